/- Part. No condition. -/
import Derived.Test.YtpnbgoahjoabkaaL8
import Derived.Test.YtpnbgoahjoabkaaL7

/- gaugerlaw17.QuantRises, walked. -/
namespace Go.Proofs.Ytpnbgoahjoabkaa
set_option linter.unusedVariables false
open Go.RowKit
theorem and62i (x : Int) : bits BinOp.and IntKind.i64 x 4611686018427387903 = x % 4611686018427387904 := by
  show IntKind.i64.wrap ((BitVec.ofInt 64 x &&& BitVec.ofInt 64 4611686018427387903).toNat : Int) = _
  have e1 : (BitVec.ofInt 64 (4611686018427387903 : Int)).toNat = 2 ^ 62 - 1 := by decide
  rw [BitVec.toNat_and, e1, Nat.and_two_pow_sub_one_eq_mod, BitVec.toNat_ofInt, IntKind.wrap_i64]
  have : (x % ((2 ^ 64 : Nat) : Int)).toNat % 2 ^ 62 < 4611686018427387904 := Nat.mod_lt _ (by decide)
  omega
theorem rank_bd {x T : Int} (hT : 1 ≤ T) : 0 ≤ x % 4611686018427387904 % T ∧ x % 4611686018427387904 % T < T :=
  ⟨Int.emod_nonneg _ (by omega), Int.emod_lt_of_pos _ (by omega)⟩
theorem tot_bd (C : Cfg) (B : Nat) (us : List (Int × Int)) : -65970697666560 ≤ (feedK C (fus us 0 60) B).getD 0 0 ∧ (feedK C (fus us 0 60) B).getD 0 0 ≤ 65970697666560 := (fed_bnd C us B).getD (by decide) 0
set_option maxRecDepth 20000 in
set_option maxHeartbeats 8000000 in
theorem RisesL_c (x : Cfg) (hx : x.Raw) (ka : Int) (hka : I64 ka) (kb : Int) (hkb : I64 kb) (us : List (Int × Int)) (hus : UpsOk us) (v : Value) (w : World) (hv : UpsAt w v us) (hul : us.length ≤ 140737488355328) :
    Calls Try.prog 16 #[.agg #[.int .i64 x.bits, .int .i64 x.rows, .int .i64 x.width, .int .i64 x.mode, .int .u64 x.seed, v], .int .i64 ka, .int .i64 kb] w fun e w' => e = .returned (.bool true) ∧ Ext w w' := by
  obtain ⟨vp, vc, rfl⟩ := hv.sl
  have HV := Lib.hid hv
  clear hv
  go_enter Try.func16, Try.ntmps16
  go_wp2_with fail
  refine (shown17_c _).mono ?_
  rintro e w1 ⟨rfl, hb1⟩
  have hE1 : Ext w w1 := by (repeat' (first | exact Ext.refl _ | assumption | apply Ext.allocR | apply Ext.drewR | apply Ext.drewNR | (refine Ext.trans' ?_ (by assumption))))
  have hP1 := hb1.keep (heap_at w (.cells #[.int .i64 x.bits, .int .i64 x.rows, .int .i64 x.width, .int .i64 x.mode, .int .u64 x.seed, .slice vp us.length vc] 109) rfl)
  have p0 := (cell_of hP1 0).trans rfl
  have p1 := (cell_of hP1 1).trans rfl
  have p2 := (cell_of hP1 2).trans rfl
  have p3 := (cell_of hP1 3).trans rfl
  have p4 := (cell_of hP1 4).trans rfl
  have p5 := (cell_of hP1 5).trans rfl
  have pl := lt_of hP1
  clear hb1
  go_wp2_with fail
  refine Calls.mono (fed17_c x hx 10 (by decide) (by decide) 0 (by decide) (by decide) us hus _ _ (HV.out.ext hE1) hul) ?_
  rintro e w2 ⟨s, g, L, rfl, hK, hs, hg, hF, hx2⟩
  have hok := kcfg_ok x hx.s (nb := 10) (m := 0) (by decide) (by decide) (by decide)
  generalize kcfg x 10 0 = C at *
  have hb1 := hok.b1
  obtain ⟨B, hB⟩ : ∃ B : Nat, C.bits = B := ⟨C.bits.toNat, by omega⟩
  have hBt : C.bits.toNat = B := by omega
  rw [hBt] at hK
  have hE2 : Ext w w2 := by (repeat' (first | exact Ext.refl _ | assumption | apply Ext.allocR | apply Ext.drewR | apply Ext.drewNR | (refine Ext.trans' ?_ (by assumption))))
  clear p0 p1 p2 p3 p4 p5 pl hP1 hx2 hE1 hs hg hF hBt
  have hT : Tells C B (feedK C (fus us 0 60)) (ptK C B us) := tells_fed C B us
  obtain ⟨tb1, tb2⟩ := tot_bd C B us
  have hQ := fun W' k (h : Ext w2 W') hk => Quantile_c s g C B L _ W' (hK.ext h) k hk _ hT
  have hTo := fun W' (h : Ext w2 W') => KTotal_c s g C B L _ W' (hK.ext h)
  generalize (feedK C (fus us 0 60) B).getD 0 0 = T at *
  have HQ := Lib.hid hQ
  clear hQ hT hK
  go_wp2_with fail
  refine (hTo _ (by (repeat' (first | exact Ext.refl _ | assumption | apply Ext.allocR | apply Ext.drewR | apply Ext.drewNR | (refine Ext.trans' ?_ (by assumption)))))).mono ?_
  rintro e w3 ⟨rfl, hx3⟩
  have hE3 : Ext w2 w3 := by (repeat' (first | exact Ext.refl _ | assumption | apply Ext.allocR | apply Ext.drewR | apply Ext.drewNR | (refine Ext.trans' ?_ (by assumption))))
  clear hx3 hTo
  go_wp2_with fail
  refine (HQ.out _ 0 (hE3.trans' (by (repeat' (first | exact Ext.refl _ | assumption | apply Ext.allocR | apply Ext.drewR | apply Ext.drewNR | (refine Ext.trans' ?_ (by assumption)))))) (by unfold I64; omega)).mono ?_
  rintro e w4 hp
  obtain ⟨_, rfl, hx4⟩ := hp.resolve_right (fun h => by have := h.1; omega)
  have hE4 : Ext w2 w4 := hE3.trans' (by (repeat' (first | exact Ext.refl _ | assumption | apply Ext.allocR | apply Ext.drewR | apply Ext.drewNR | (refine Ext.trans' ?_ (by assumption)))))
  clear hx4 hp hE3
  by_cases hneg : T < 0
  · go_wp2_with fail
    refine (HQ.out _ _ (hE4.trans' (by (repeat' (first | exact Ext.refl _ | assumption | apply Ext.allocR | apply Ext.drewR | apply Ext.drewNR | (refine Ext.trans' ?_ (by assumption)))))) (by unfold I64; omega)).mono ?_
    rintro e w5 hp
    obtain ⟨_, rfl, hx5⟩ := hp.resolve_right (fun h => by have := h.1; omega)
    have hE5 : Ext w2 w5 := hE4.trans' (by (repeat' (first | exact Ext.refl _ | assumption | apply Ext.allocR | apply Ext.drewR | apply Ext.drewNR | (refine Ext.trans' ?_ (by assumption)))))
    clear hx5 hp hE4
    go_wp2
    go_ret
    exact ⟨rfl, hE2.trans' hE5⟩
  by_cases hz : T < 1
  · go_wp2_with fail
    refine (HQ.out _ _ (hE4.trans' (by (repeat' (first | exact Ext.refl _ | assumption | apply Ext.allocR | apply Ext.drewR | apply Ext.drewNR | (refine Ext.trans' ?_ (by assumption)))))) (by unfold I64; omega)).mono ?_
    rintro e w5 hp
    obtain ⟨_, rfl, hx5⟩ := hp.resolve_right (fun h => by have := h.1; omega)
    have hE5 : Ext w2 w5 := hE4.trans' (by (repeat' (first | exact Ext.refl _ | assumption | apply Ext.allocR | apply Ext.drewR | apply Ext.drewNR | (refine Ext.trans' ?_ (by assumption)))))
    clear hx5 hp hE4
    go_wp2
    go_ret
    exact ⟨rfl, hE2.trans' hE5⟩
  go_wp2_with fail
  refine (HQ.out _ _ (hE4.trans' (by (repeat' (first | exact Ext.refl _ | assumption | apply Ext.allocR | apply Ext.drewR | apply Ext.drewNR | (refine Ext.trans' ?_ (by assumption)))))) (by unfold I64; omega)).mono ?_
  rintro e w5 hp
  obtain ⟨_, rfl, hx5⟩ := hp.resolve_right (fun h => by have := h.1; omega)
  have hE5 : Ext w2 w5 := hE4.trans' (by (repeat' (first | exact Ext.refl _ | assumption | apply Ext.allocR | apply Ext.drewR | apply Ext.drewNR | (refine Ext.trans' ?_ (by assumption)))))
  clear hx5 hp hE4
  have a1 := and62i ka
  have a2 := and62i kb
  obtain ⟨r1, r2⟩ := rank_bd (x := ka) (T := T) (by omega)
  obtain ⟨r3, r4⟩ := rank_bd (x := kb) (T := T) (by omega)
  have hzT : (T == 0) = false := by simp; omega
  go_upto_region 12 with (fail)
  obtain ⟨A, hA⟩ : ∃ A, 1 + ka % 4611686018427387904 % T = A := ⟨_, rfl⟩
  obtain ⟨D, hD⟩ : ∃ D, 1 + kb % 4611686018427387904 % T = D := ⟨_, rfl⟩
  have HA := Lib.hid hA
  have HD := Lib.hid hD
  go_cut [1] (fun s1 wx => s1 = .int .i64 A ∧ w5 = wx)
  case first =>
    clear hA hD
    go_wp2
    go_meet
    exact ⟨by rw [HA.out], rfl⟩
  case rest =>
   obtain ⟨rfl, rfl⟩ := hcut
   go_upto_region 13 with (fail)
   go_cut [2] (fun s2 wx => s2 = .int .i64 D ∧ w5 = wx)
   case first =>
     clear hA hD
     go_wp2
     go_meet
     exact ⟨by rw [HD.out], rfl⟩
   case rest =>
    obtain ⟨rfl, rfl⟩ := hcut
    have hA1 : 1 ≤ A := by omega
    have hA2 : A ≤ T := by omega
    have hD1 : 1 ≤ D := by omega
    have hD2 : D ≤ T := by omega
    clear a1 a2 r1 r2 r3 r4 hzT hA hD HA HD
    rcases Int.lt_trichotomy A D with hlt | rfl | hlt
    · have hm := wayI_mono (ptK C B us) B 0 A D (by omega)
      have HM := Lib.hid hm
      clear hm
      go_wp2_with fail
      refine (HQ.out _ _ (hE5.trans' (by (repeat' (first | exact Ext.refl _ | assumption | apply Ext.allocR | apply Ext.drewR | apply Ext.drewNR | (refine Ext.trans' ?_ (by assumption)))))) (by unfold I64; omega)).mono ?_
      rintro e w6 hp
      obtain ⟨_, rfl, hx6⟩ := hp.resolve_left (fun h => by have := h.1; omega)
      have hE6 : Ext w2 w6 := hE5.trans' (by (repeat' (first | exact Ext.refl _ | assumption | apply Ext.allocR | apply Ext.drewR | apply Ext.drewNR | (refine Ext.trans' ?_ (by assumption)))))
      clear hx6 hp hE5
      go_wp2_with fail
      refine (HQ.out _ _ (hE6.trans' (by (repeat' (first | exact Ext.refl _ | assumption | apply Ext.allocR | apply Ext.drewR | apply Ext.drewNR | (refine Ext.trans' ?_ (by assumption)))))) (by unfold I64; omega)).mono ?_
      rintro e w7 hp
      obtain ⟨_, rfl, hx7⟩ := hp.resolve_left (fun h => by have := h.1; omega)
      have hE7 : Ext w2 w7 := hE6.trans' (by (repeat' (first | exact Ext.refl _ | assumption | apply Ext.allocR | apply Ext.drewR | apply Ext.drewNR | (refine Ext.trans' ?_ (by assumption)))))
      clear hx7 hp hE6
      have hml := HM.out
      generalize wayI (ptK C B us) B 0 A = i1 at *
      generalize wayI (ptK C B us) B 0 D = i2 at *
      go_wp2
      go_ret
      exact ⟨rfl, hE2.trans' hE7⟩
    · have hm := wayI_mono (ptK C B us) B 0 A A (by omega)
      have HM := Lib.hid hm
      clear hm
      go_wp2_with fail
      refine (HQ.out _ _ (hE5.trans' (by (repeat' (first | exact Ext.refl _ | assumption | apply Ext.allocR | apply Ext.drewR | apply Ext.drewNR | (refine Ext.trans' ?_ (by assumption)))))) (by unfold I64; omega)).mono ?_
      rintro e w6 hp
      obtain ⟨_, rfl, hx6⟩ := hp.resolve_left (fun h => by have := h.1; omega)
      have hE6 : Ext w2 w6 := hE5.trans' (by (repeat' (first | exact Ext.refl _ | assumption | apply Ext.allocR | apply Ext.drewR | apply Ext.drewNR | (refine Ext.trans' ?_ (by assumption)))))
      clear hx6 hp hE5
      go_wp2_with fail
      refine (HQ.out _ _ (hE6.trans' (by (repeat' (first | exact Ext.refl _ | assumption | apply Ext.allocR | apply Ext.drewR | apply Ext.drewNR | (refine Ext.trans' ?_ (by assumption)))))) (by unfold I64; omega)).mono ?_
      rintro e w7 hp
      obtain ⟨_, rfl, hx7⟩ := hp.resolve_left (fun h => by have := h.1; omega)
      have hE7 : Ext w2 w7 := hE6.trans' (by (repeat' (first | exact Ext.refl _ | assumption | apply Ext.allocR | apply Ext.drewR | apply Ext.drewNR | (refine Ext.trans' ?_ (by assumption)))))
      clear hx7 hp hE6
      have hml := HM.out
      generalize wayI (ptK C B us) B 0 A = i1 at *
      go_wp2
      go_ret
      exact ⟨rfl, hE2.trans' hE7⟩
    · have hm := wayI_mono (ptK C B us) B 0 D A (by omega)
      have HM := Lib.hid hm
      clear hm
      go_wp2_with fail
      refine (HQ.out _ _ (hE5.trans' (by (repeat' (first | exact Ext.refl _ | assumption | apply Ext.allocR | apply Ext.drewR | apply Ext.drewNR | (refine Ext.trans' ?_ (by assumption)))))) (by unfold I64; omega)).mono ?_
      rintro e w6 hp
      obtain ⟨_, rfl, hx6⟩ := hp.resolve_left (fun h => by have := h.1; omega)
      have hE6 : Ext w2 w6 := hE5.trans' (by (repeat' (first | exact Ext.refl _ | assumption | apply Ext.allocR | apply Ext.drewR | apply Ext.drewNR | (refine Ext.trans' ?_ (by assumption)))))
      clear hx6 hp hE5
      go_wp2_with fail
      refine (HQ.out _ _ (hE6.trans' (by (repeat' (first | exact Ext.refl _ | assumption | apply Ext.allocR | apply Ext.drewR | apply Ext.drewNR | (refine Ext.trans' ?_ (by assumption)))))) (by unfold I64; omega)).mono ?_
      rintro e w7 hp
      obtain ⟨_, rfl, hx7⟩ := hp.resolve_left (fun h => by have := h.1; omega)
      have hE7 : Ext w2 w7 := hE6.trans' (by (repeat' (first | exact Ext.refl _ | assumption | apply Ext.allocR | apply Ext.drewR | apply Ext.drewNR | (refine Ext.trans' ?_ (by assumption)))))
      clear hx7 hp hE6
      have hml := HM.out
      generalize wayI (ptK C B us) B 0 A = i1 at *
      generalize wayI (ptK C B us) B 0 D = i2 at *
      go_wp2
      go_ret
      exact ⟨rfl, hE2.trans' hE7⟩
end Go.Proofs.Ytpnbgoahjoabkaa

/- gaugerlaw17.QuantWay, walked. -/
namespace Go.Proofs.Ytpnbgoahjoabkaa
set_option linter.unusedVariables false
open Go.RowKit
theorem way_step (pt : Nat → Int → Int) : ∀ (n : Nat) (i k : Int), 0 ≤ i → ∀ j : Nat, j < n →
    (((n, i) :: wayL pt n i k).getD (j + 1) (0, 0)).2 / 2 = (((n, i) :: wayL pt n i k).getD j (0, 0)).2 ∧ 0 ≤ (((n, i) :: wayL pt n i k).getD (j + 1) (0, 0)).2
  | 0, _, _, _, j, hj => absurd hj (Nat.not_lt_zero j)
  | n + 1, i, k, h0, j, hj => by
    rw [wayL_succ, List.getD_cons_succ]
    cases j with
    | zero =>
      split
      · exact ⟨by show 2 * i / 2 = i; omega, by show 0 ≤ 2 * i; omega⟩
      · exact ⟨by show (2 * i + 1) / 2 = i; omega, by show 0 ≤ 2 * i + 1; omega⟩
    | succ j =>
      rw [List.getD_cons_succ]
      split
      · exact way_step pt n (2 * i) k (by omega) j (by omega)
      · exact way_step pt n (2 * i + 1) _ (by omega) j (by omega)
theorem way_lev (pt : Nat → Int → Int) : ∀ (n : Nat) (i k : Int) (j : Nat), j ≤ n → (((n, i) :: wayL pt n i k).getD j (0, 0)).1 + j = n
  | n, i, k, 0, _ => by rfl
  | 0, _, _, j + 1, hj => absurd hj (by omega)
  | n + 1, i, k, j + 1, hj => by
    rw [wayL_succ, List.getD_cons_succ]
    split
    · have := way_lev pt n (2 * i) k j (by omega); omega
    · have := way_lev pt n (2 * i + 1) (k - pt n (2 * i)) j (by omega); omega
theorem way_bd (pt : Nat → Int → Int) : ∀ (n : Nat) (i k : Int) (j : Nat), 0 ≤ i → j ≤ n → (((n, i) :: wayL pt n i k).getD j (0, 0)).2 < (i + 1) * 2 ^ j
  | n, i, k, 0, h0, _ => by show i < (i + 1) * 2 ^ 0; omega
  | 0, _, _, j + 1, _, hj => absurd hj (by omega)
  | n + 1, i, k, j + 1, h0, hj => by
    have hp : (0 : Int) < 2 ^ j := Int.pow_pos (by decide)
    have e : (i + 1) * 2 ^ (j + 1) = (2 * i + 1 + 1) * (2 : Int) ^ j := by
      rw [Int.pow_succ, Int.mul_comm ((2 : Int) ^ j) 2, ← Int.mul_assoc]
      congr 1
      omega
    rw [wayL_succ, List.getD_cons_succ, e]
    split
    · have := way_bd pt n (2 * i) k j (by omega) (by omega)
      have : (2 * i + 1) * (2 : Int) ^ j ≤ (2 * i + 1 + 1) * 2 ^ j := Int.mul_le_mul_of_nonneg_right (by omega) (by omega)
      omega
    · exact way_bd pt n (2 * i + 1) _ j (by omega) (by omega)
set_option maxRecDepth 20000 in
set_option maxHeartbeats 8000000 in
theorem WayL_c (x : Cfg) (hx : x.Raw) (ka : Int) (hka : I64 ka) (us : List (Int × Int)) (hus : UpsOk us) (v : Value) (w : World) (hv : UpsAt w v us) (hul : us.length ≤ 140737488355328) :
    Calls Try.prog 17 #[.agg #[.int .i64 x.bits, .int .i64 x.rows, .int .i64 x.width, .int .i64 x.mode, .int .u64 x.seed, v], .int .i64 ka] w fun e w' => e = .returned (.bool true) ∧ Ext w w' := by
  obtain ⟨vp, vc, rfl⟩ := hv.sl
  have HV := Lib.hid hv
  clear hv
  go_enter Try.func17, Try.ntmps17
  go_wp2_with fail
  refine (shown17_c _).mono ?_
  rintro e w1 ⟨rfl, hb1⟩
  have hE1 : Ext w w1 := by (repeat' (first | exact Ext.refl _ | assumption | apply Ext.allocR | apply Ext.drewR | apply Ext.drewNR | (refine Ext.trans' ?_ (by assumption))))
  have hP1 := hb1.keep (heap_at w (.cells #[.int .i64 x.bits, .int .i64 x.rows, .int .i64 x.width, .int .i64 x.mode, .int .u64 x.seed, .slice vp us.length vc] 109) rfl)
  have p0 := (cell_of hP1 0).trans rfl
  have p1 := (cell_of hP1 1).trans rfl
  have p2 := (cell_of hP1 2).trans rfl
  have p3 := (cell_of hP1 3).trans rfl
  have p4 := (cell_of hP1 4).trans rfl
  have p5 := (cell_of hP1 5).trans rfl
  have pl := lt_of hP1
  clear hb1
  go_wp2_with fail
  refine Calls.mono (fed17_c x hx 10 (by decide) (by decide) 0 (by decide) (by decide) us hus _ _ (HV.out.ext hE1) hul) ?_
  rintro e w2 ⟨s, g, L, rfl, hK, hs, hg, hF, hx2⟩
  have hok := kcfg_ok x hx.s (nb := 10) (m := 0) (by decide) (by decide) (by decide)
  generalize kcfg x 10 0 = C at *
  have hb1 := hok.b1
  obtain ⟨B, hB⟩ : ∃ B : Nat, C.bits = B := ⟨C.bits.toNat, by omega⟩
  have hBt : C.bits.toNat = B := by omega
  have hBd : B ≤ 59 := by have := hok.b2; omega
  rw [hBt] at hK
  have hE2 : Ext w w2 := by (repeat' (first | exact Ext.refl _ | assumption | apply Ext.allocR | apply Ext.drewR | apply Ext.drewNR | (refine Ext.trans' ?_ (by assumption))))
  have HB := Lib.hid hB
  clear p0 p1 p2 p3 p4 p5 pl hP1 hx2 hE1 hs hg hF hBt hB
  have hT : Tells C B (feedK C (fus us 0 60)) (ptK C B us) := tells_fed C B us
  obtain ⟨tb1, tb2⟩ := tot_bd C B us
  have hQ := fun W' k (h : Ext w2 W') hk => Quantile_c s g C B L _ W' (hK.ext h) k hk _ hT
  have hWy := fun W' k (h : Ext w2 W') hk => Way_c s g C B L _ W' (hK.ext h) k hk _ hT
  have hTo := fun W' (h : Ext w2 W') => KTotal_c s g C B L _ W' (hK.ext h)
  generalize (feedK C (fus us 0 60) B).getD 0 0 = T at *
  have HQ := Lib.hid hQ
  have HWy := Lib.hid hWy
  clear hQ hWy hT hK
  go_upto_region 5 with (fail)
  obtain ⟨w3, hw3⟩ : ∃ w3, w2.alloc (.cells #[.int .i64 C.bits, .int .i64 C.rows, .int .i64 C.width, .int .i64 C.mode, .int .u64 C.seed] 24) = w3 := ⟨_, rfl⟩
  have hE3 : Ext w2 w3 := by rw [← hw3]; exact Ext.alloc' _ _
  have hC3 : CfgAt w3 w2.heap.size C := by rw [← hw3]; exact CfgAt.box C _ rfl
  rw [hw3]
  clear hw3
  go_wp2_with fail
  refine (hTo _ (hE3.trans' (by (repeat' (first | exact Ext.refl _ | assumption | apply Ext.allocR | apply Ext.drewR | apply Ext.drewNR | (refine Ext.trans' ?_ (by assumption))))))).mono ?_
  rintro e w4 ⟨rfl, hx4⟩
  have hE4 : Ext w3 w4 := by (repeat' (first | exact Ext.refl _ | assumption | apply Ext.allocR | apply Ext.drewR | apply Ext.drewNR | (refine Ext.trans' ?_ (by assumption))))
  clear hx4
  by_cases hz : T < 1
  · go_wp2
    go_ret
    exact ⟨rfl, hE2.trans' (hE3.trans' hE4)⟩
  go_wp2_with fail
  refine (hTo _ (hE3.trans' (hE4.trans' (by (repeat' (first | exact Ext.refl _ | assumption | apply Ext.allocR | apply Ext.drewR | apply Ext.drewNR | (refine Ext.trans' ?_ (by assumption)))))))).mono ?_
  rintro e w5 ⟨rfl, hx5⟩
  have hE5 : Ext w3 w5 := hE4.trans' (by (repeat' (first | exact Ext.refl _ | assumption | apply Ext.allocR | apply Ext.drewR | apply Ext.drewNR | (refine Ext.trans' ?_ (by assumption)))))
  clear hx5 hE4 hTo
  have a1 := and62i ka
  obtain ⟨r1, r2⟩ := rank_bd (x := ka) (T := T) (by omega)
  have hzT : (T == 0) = false := by simp; omega
  go_upto_region 8 with (fail)
  generalize hA : 1 + ka % 4611686018427387904 % T = A at *
  have hA1 : 1 ≤ A := by omega
  have hA2 : A ≤ T := by omega
  clear a1 r1 r2 hzT hA
  go_wp2_with fail
  refine (HWy.out _ _ (hE3.trans' (hE5.trans' (by (repeat' (first | exact Ext.refl _ | assumption | apply Ext.allocR | apply Ext.drewR | apply Ext.drewNR | (refine Ext.trans' ?_ (by assumption))))))) (by unfold I64; omega)).mono ?_
  rintro e w6 hp
  obtain ⟨_, v6, base, rfl, hbs, ho, hx6⟩ := hp.resolve_left (fun h => by have := h.1; omega)
  obtain ⟨g6, c6, rfl, hg6, hp6⟩ := own_pieces ho (by rw [wayP_len]; omega)
  have hE6 : Ext w3 w6 := hE5.trans' (by (repeat' (first | exact Ext.refl _ | assumption | apply Ext.allocR | apply Ext.drewR | apply Ext.drewNR | (refine Ext.trans' ?_ (by assumption)))))
  rw [wayP_len]
  have hlen := wayP_len (ptK C B us) B A
  have hst : ∀ j : Nat, j < B → ((wayP (ptK C B us) B A).getD (j + 1) (0, 0)).2 / 2 = ((wayP (ptK C B us) B A).getD j (0, 0)).2 ∧ 0 ≤ ((wayP (ptK C B us) B A).getD (j + 1) (0, 0)).2 := way_step (ptK C B us) B 0 A (Int.le_refl 0)
  have hlv : ∀ j : Nat, j ≤ B → ((wayP (ptK C B us) B A).getD j (0, 0)).1 + j = B := way_lev (ptK C B us) B 0 A
  have hla : (wayP (ptK C B us) B A).getD B (0, 0) = (0, wayI (ptK C B us) B 0 A) := way_last (ptK C B us) B 0 A
  have hfi : (wayP (ptK C B us) B A).getD 0 (0, 0) = (B, 0) := rfl
  have hub : ∀ j : Nat, j ≤ B → ((wayP (ptK C B us) B A).getD j (0, 0)).2 ≤ 576460752303423488 := fun j hj => by
    have h1 := way_bd (ptK C B us) B 0 A j (Int.le_refl 0) hj
    have h2 := pow_bd j (by omega)
    have h3 : ((wayP (ptK C B us) B A).getD j (0, 0)).2 < (0 + 1) * 2 ^ j := h1
    omega
  have HUB := Lib.hid hub
  clear hub
  have HLEN := Lib.hid hlen
  have HST := Lib.hid hst
  have HLV := Lib.hid hlv
  have HLA := Lib.hid hla
  have HFI := Lib.hid hfi
  have HP6 := Lib.hid hp6
  clear hx6 hp hE5 ho hbs hlen hst hlv hla hfi hp6 HWy
  generalize wayP (ptK C B us) B A = dn at *
  go_wp2_with fail
  refine (HQ.out _ _ (hE3.trans' (hE6.trans' (by (repeat' (first | exact Ext.refl _ | assumption | apply Ext.allocR | apply Ext.drewR | apply Ext.drewNR | (refine Ext.trans' ?_ (by assumption))))))) (by unfold I64; omega)).mono ?_
  rintro e w7 hp
  obtain ⟨_, rfl, hx7⟩ := hp.resolve_left (fun h => by have := h.1; omega)
  have hE67 : Ext w6 w7 := by (repeat' (first | exact Ext.refl _ | assumption | apply Ext.allocR | apply Ext.drewR | apply Ext.drewNR | (refine Ext.trans' ?_ (by assumption))))
  have hE7 : Ext w3 w7 := hE6.trans' hE67
  have hp7 := HP6.out.ext hg6 hE67
  have hg7 : g6 < w7.heap.size := Nat.lt_of_lt_of_le hg6 hE67.size
  clear hx7 hp HQ hE67 HP6 hE6 hg6
  generalize wayI (ptK C B us) B 0 A = key at *
  have hC7 := hC3.ext hE7
  have c0 := hC7.c0
  rw [HB.out] at c0
  have cl := hC7.lt
  obtain ⟨d0, d1⟩ := hp7 0 (by rw [HLEN.out]; omega)
  rw [HFI.out] at d0 d1
  simp only [Nat.zero_mul, Nat.add_zero, Nat.zero_add] at d0 d1
  have HP7 := Lib.hid hp7
  clear hC7 hC3 hp7 hA1 hA2 tb1 tb2 hz
  go_wp2_with fail
  refine wp_region_after (by kernel_rfl) (by kernel_rfl) ?_
  repeat (go_big_quiet_step (fail))
  refine wpQuiet_nil ?_
  rintro _ ⟨xx, rfl⟩
  obtain ⟨w8, hb8⟩ := xx
  try dsimp only
  have hE8 : Ext w3 w8 := hE7.trans' hb8
  have HP8 := Lib.hid (HP7.out.ext hg7 hb8)
  have hg8 : g6 < w8.heap.size := Nat.lt_of_lt_of_le hg7 hb8.size
  clear hb8 HP7 hE7 hg7 c0 cl d0 d1
  go_wp2
  go_loopw [12] (fun u wr => ∃ i : Nat, i ≤ B ∧ u = .int .i64 ((i : Int) + 1) ∧ Ext w8 wr) (fun u _ => B + 1 - (intOf u).toNat)
  case atStart => exact ⟨0, Nat.zero_le _, rfl, Ext.refl _⟩
  case round =>
    obtain ⟨i, hi, rfl, hEr⟩ := hrel
    have hgr : g6 < wr.heap.size := Nat.lt_of_lt_of_le hg8 hEr.size
    by_cases hlt : i < B
    · obtain ⟨d0, d1⟩ := (HP8.out.ext hg8 hEr) i (by rw [HLEN.out]; omega)
      obtain ⟨d2, d3⟩ := (HP8.out.ext hg8 hEr) (i + 1) (by rw [HLEN.out]; omega)
      rw [Nat.zero_add] at d0 d1 d2 d3
      obtain ⟨s1, s2⟩ := HST.out i hlt
      have ub := HUB.out (i + 1) (by omega)
      have v1 := HLV.out i (by omega)
      have v2 := HLV.out (i + 1) (by omega)
      generalize (dn.getD i (0, 0)).1 = la at *
      generalize (dn.getD (i + 1) (0, 0)).1 = lb at *
      generalize (dn.getD i (0, 0)).2 = ia at *
      generalize (dn.getD (i + 1) (0, 0)).2 = ib at *
      obtain rfl : la = lb + 1 := by omega
      have hq : (IntKind.u64.wrap (ib.tdiv 2) != ia) = false := by
        rw [IntKind.wrap_u64, Int.tdiv_eq_ediv_of_nonneg s2]
        simp
        omega
      go_wp2_with fail
      refine wp_region_after (by kernel_rfl) (by kernel_rfl) ?_
      repeat (go_big_quiet_step (fail))
      refine wpQuiet_nil ?_
      rintro _ ⟨xx, rfl⟩
      obtain ⟨w9, hb9⟩ := xx
      try dsimp only
      go_wp2
      go_roundw
      case rel => exact ⟨i + 1, by omega, by go_num, hEr.trans' hb9⟩
      case measure => simp [intOf]; omega
    · obtain rfl : i = B := by omega
      obtain ⟨d0, d1⟩ := (HP8.out.ext hg8 hEr) i (by rw [HLEN.out]; omega)
      rw [HLA.out, Nat.zero_add] at d1
      go_wp2
      go_ret
      exact ⟨rfl, hE2.trans' (hE3.trans' (hE8.trans' hEr))⟩
end Go.Proofs.Ytpnbgoahjoabkaa

/- Plain law: what the way to a rank's key tells. -/
namespace Go.Proofs.Ytpnbgoahjoabkaa
set_option linter.unusedVariables false
open Go.RowKit
/-- What is too much on the first pieces of a way. -/
def oS (pt S : Nat → Int → Int) : List (Nat × Int) → Nat → Int
  | _, 0 => 0
  | [], _ + 1 => 0
  | p :: l, j + 1 => (pt (p.1 - 1) (2 * p.2) - S (p.1 - 1) (2 * p.2)) + oS pt S l j
theorem oS_zero (pt S : Nat → Int → Int) (l : List (Nat × Int)) : oS pt S l 0 = 0 := by cases l <;> rfl
theorem oS_snoc (pt S : Nat → Int → Int) : ∀ (l : List (Nat × Int)) (j : Nat), j < l.length → oS pt S l (j + 1) = oS pt S l j + (pt ((l.getD j (0, 0)).1 - 1) (2 * (l.getD j (0, 0)).2) - S ((l.getD j (0, 0)).1 - 1) (2 * (l.getD j (0, 0)).2))
  | [], j, h => by simp at h
  | p :: l, 0, h => by
    show (_ + oS pt S l 0) = 0 + _
    rw [oS_zero]
    simp
  | p :: l, j + 1, h => by
    show _ + oS pt S l (j + 1) = (_ + oS pt S l j) + _
    rw [oS_snoc pt S l j (by simpa using h)]
    simp only [List.getD_cons_succ]
    omega
theorem oS_bd {pt S : Nat → Int → Int} (h1 : ∀ n i, -65970697666560 ≤ pt n i ∧ pt n i ≤ 65970697666560) (h2 : ∀ n i, -65970697666560 ≤ S n i ∧ S n i ≤ 65970697666560) : ∀ (l : List (Nat × Int)) (j : Nat), -131941395333120 * (j : Int) ≤ oS pt S l j ∧ oS pt S l j ≤ 131941395333120 * (j : Int)
  | l, 0 => by rw [oS_zero]; simp
  | [], j + 1 => by show _ ≤ (0 : Int) ∧ (0 : Int) ≤ _; omega
  | p :: l, j + 1 => by
    have := oS_bd h1 h2 l j
    have a := h1 (p.1 - 1) (2 * p.2)
    have b := h2 (p.1 - 1) (2 * p.2)
    show _ ≤ (_ - _) + oS pt S l j ∧ (_ - _) + oS pt S l j ≤ _
    omega
theorem oS_way (pt S : Nat → Int → Int) : ∀ (n : Nat) (i k : Int), oS pt S ((n, i) :: wayL pt n i k) n = wayO pt S n i k
  | 0, _, _ => rfl
  | n + 1, i, k => by
    rw [wayL_succ]
    show (pt (n + 1 - 1) (2 * i) - S (n + 1 - 1) (2 * i)) + oS pt S _ n = _
    unfold wayO
    rw [Nat.add_sub_cancel]
    split
    · rw [oS_way pt S n]
    · rw [oS_way pt S n]
theorem psU_in {C : Cfg} (hok : C.Ok) (us : List (Int × Int)) : ∀ u ∈ psU C us, 0 ≤ u.1 ∧ u.1 < keys C 0 := by
  intro u hu
  simp only [psU, stP, List.mem_map] at hu
  obtain ⟨p, _, rfl⟩ := hu
  rw [show ((sh 0 (cutK C 0 p.1), cutD C.mode p.2) : Int × Int).1 = cutK C 0 p.1 from sh_zero _]
  exact cutK_bd C hok 0 p.1 (Int.le_refl 0)
theorem sh_top {C : Cfg} {B : Nat} (hB : C.bits = B) {u : Int} (h0 : 0 ≤ u) (h1 : u < keys C 0) : sh B u = 0 := by
  have : keys C 0 = 2 ^ B := by unfold keys; rw [hB]; congr 1
  rw [this] at h1
  unfold sh
  exact Int.ediv_eq_zero_of_lt h0 h1
theorem bet_up {C : Cfg} (hok : C.Ok) {B : Nat} (hB : C.bits = B) (us : List (Int × Int)) (x : Int) : betK C us 60 0 x = upS (psU C us) B 0 x := by
  refine sumIf_congr fun u hu => ?_
  obtain ⟨a, b⟩ := psU_in hok us u hu
  have hs := sh_top hB a b
  unfold inB
  rw [hs, decide_eq_true a]
  rfl
theorem up_lo {C : Cfg} (hok : C.Ok) {B : Nat} (hB : C.bits = B) (us : List (Int × Int)) (x : Int) : upS (psU C us) B 0 x = loS (psU C us) B 0 x + pcS (psU C us) 0 x := by
  unfold upS loS pcS
  rw [sumIf_split _ (fun u => decide (u < x)) (psU C us)]
  congr 1
  · refine sumIf_congr fun u hu => ?_
    obtain ⟨a, b⟩ := psU_in hok us u hu
    rw [sh_top hB a b, Bool.eq_iff_iff]
    simp only [Bool.and_eq_true, beq_iff_eq, decide_eq_true_eq, true_and]
    omega
  · refine sumIf_congr fun u hu => ?_
    obtain ⟨a, b⟩ := psU_in hok us u hu
    rw [sh_top hB a b, sh_zero, Bool.eq_iff_iff]
    simp only [Bool.and_eq_true, beq_iff_eq, decide_eq_true_eq, Bool.not_eq_true', decide_eq_false_iff_not, true_and]
    omega
theorem wayI_key {C : Cfg} {B : Nat} (hB : C.bits = B) (pt : Nat → Int → Int) (k : Int) : 0 ≤ wayI pt B 0 k ∧ wayI pt B 0 k < keys C 0 := by
  have h1 := way_bd pt B 0 k B (Int.le_refl 0) (Nat.le_refl _)
  rw [way_last] at h1
  have h1' : wayI pt B 0 k < (0 + 1) * 2 ^ B := h1
  have hs := wayI_sh pt B 0 k
  have : keys C 0 = 2 ^ B := by unfold keys; rw [hB]; congr 1
  refine ⟨?_, by rw [this]; omega⟩
  unfold sh at hs
  have hp : (0 : Int) < 2 ^ B := Int.pow_pos (by decide)
  rcases Int.lt_or_le (wayI pt B 0 k) 0 with h | h
  · have := Int.ediv_neg_of_neg_of_pos h hp
    omega
  · exact h
/-- All keys below the answer have less than the rank; the rank is not more than what all up to it have, and what is too much. -/
theorem qb_law {C : Cfg} (hok : C.Ok) {B : Nat} (hB : C.bits = B) {us : List (Int × Int)} (hus : UpsOk us) (hm : C.mode ≠ 3) (hp : plK C us 60 = true) {A : Int} (h1 : 1 ≤ A) (h2 : A ≤ hasK C us 60 B 0) :
    betK C us 60 0 (wayI (ptK C B us) B 0 A) - hasK C us 60 0 (wayI (ptK C B us) B 0 A) < A ∧
    A ≤ betK C us 60 0 (wayI (ptK C B us) B 0 A) + oS (ptK C B us) (pcS (psU C us)) (wayP (ptK C B us) B A) B ∧
    0 ≤ oS (ptK C B us) (pcS (psU C us)) (wayP (ptK C B us) B A) B := by
  have hge := ptK_ge hok hB hus hm hp
  have a := way_below hge B 0 A (Int.le_refl 0) h1
  rw [hasK_pc] at h2
  have b := way_upto hge B 0 A 0 (Int.le_refl 0) (Int.le_refl 0) (by omega)
  have c := wayO_nn hge B 0 A (Int.le_refl 0)
  have d : oS (ptK C B us) (pcS (psU C us)) (wayP (ptK C B us) B A) B = wayO (ptK C B us) (pcS (psU C us)) B 0 A := oS_way _ _ _ _ _
  have e := up_lo hok hB us (wayI (ptK C B us) B 0 A)
  have f := bet_up hok hB us (wayI (ptK C B us) B 0 A)
  rw [d, hasK_pc, f]
  omega
end Go.Proofs.Ytpnbgoahjoabkaa

/- Plain law: what is told of a span. -/
namespace Go.Proofs.Ytpnbgoahjoabkaa
set_option linter.unusedVariables false
open Go.RowKit
theorem uniq_fed (C : Cfg) (B : Nat) (us : List (Int × Int)) : Uniq C B (feedK C (fus us 0 60)) (ptK C B us) := fun n i x hn h0 h1 h => ptK_of hn h0 h1 h
theorem ptK_I64 (C : Cfg) (B : Nat) (us : List (Int × Int)) (n : Nat) (i : Int) : I64 (ptK C B us n i) := by
  obtain ⟨h1, h2⟩ := ptK_bnd C B us n i
  unfold I64; omega
theorem lsum_mono {α : Type} {f g : α → Int} : ∀ {l : List α}, (∀ x ∈ l, f x ≤ g x) → lsum (l.map f) ≤ lsum (l.map g)
  | [], _ => Int.le_refl _
  | x :: l, h => by
    rw [List.map_cons, List.map_cons, lsum_cons, lsum_cons]
    have := lsum_mono (l := l) (fun y hy => h y (by simp [hy]))
    have := h x (by simp)
    omega
theorem cv_bd {C : Cfg} {B : Nat} (hB : B ≤ 59) (us : List (Int × Int)) (lo hi : Int) : -7850513022320640 ≤ lsum (cvV (ptK C B us) B lo hi) ∧ lsum (cvV (ptK C B us) B lo hi) ≤ 7850513022320640 := by
  have h := lsum_bd (l := cvV (ptK C B us) B lo hi) (B := 65970697666560) (by decide) (fun x hx => by
    unfold cvV at hx
    simp only [List.mem_map] at hx
    obtain ⟨p, _, rfl⟩ := hx
    exact ptK_bnd C B us _ _)
  have hl : (cvV (ptK C B us) B lo hi).length ≤ 2 * B + 1 := by unfold cvV; rw [List.length_map]; exact cov_len B 0 lo hi
  omega
theorem cv_I64 {C : Cfg} {B : Nat} (hB : B ≤ 59) (us : List (Int × Int)) (lo hi : Int) : I64 (lsum (cvV (ptK C B us) B lo hi)) := by
  obtain ⟨h1, h2⟩ := cv_bd (C := C) hB us lo hi
  unfold I64; omega
/-- No span is told less than it has. -/
theorem cv_ge {C : Cfg} (hok : C.Ok) {B : Nat} (hB : C.bits = B) {us : List (Int × Int)} (hus : UpsOk us) (hm : C.mode ≠ 3) (hp : plK C us 60 = true) {lo hi : Int} (h0 : 0 ≤ lo) (h1 : lo ≤ hi) (h2 : hi < 2 ^ B) :
    betK C us 60 lo hi ≤ lsum (cvV (ptK C B us) B lo hi) := by
  rw [← cov_bet h0 h1 h2 us]
  refine lsum_mono fun p hp' => ?_
  exact ptK_ge hok hB hus hm hp _ _ (cov_bd B 0 lo hi h0 h1 h2 p hp').1
/-- Where all levels are exact, a span is told what it has. -/
theorem cv_eq {C : Cfg} (hok : C.Ok) {B : Nat} (hB : C.bits = B) {us : List (Int × Int)} (hus : UpsOk us) (hx : ∀ n : Nat, n ≤ B → isX C n = true) {lo hi : Int} (h0 : 0 ≤ lo) (h1 : lo ≤ hi) (h2 : hi < 2 ^ B) :
    lsum (cvV (ptK C B us) B lo hi) = betK C us 60 lo hi := by
  rw [← cov_bet h0 h1 h2 us]
  unfold cvV
  congr 1
  refine List.map_congr_left fun p hp => ?_
  have hb := cov_bd B 0 lo hi h0 h1 h2 p hp
  have hl := cov_lev B 0 lo hi p hp
  have hk : p.2 < keys C p.1 := by
    unfold keys
    rw [hB, show ((B : Int) - (p.1 : Int)).toNat = 0 + B - p.1 by omega]
    exact hb.2
  exact ptK_x hok hB hus (by omega) hb.1 hk (hx p.1 (by omega))
theorem cv_all {C : Cfg} (hok : C.Ok) {B : Nat} (hB : C.bits = B) {us : List (Int × Int)} (hus : UpsOk us) : lsum (cvV (ptK C B us) B 0 (2 ^ B - 1)) = hasK C us 60 B 0 := by
  unfold cvV
  rw [cov_all B B 0]
  show lsum [ptK C B us (0 + B) 0] = _
  rw [lsum_one, Nat.zero_add, ptK_x hok hB hus (Nat.le_refl B) (Int.le_refl 0) (by rw [keys_top hB]; decide) (isX_top hok hB), hasK_pc]
theorem cv_self (C : Cfg) (B : Nat) (us : List (Int × Int)) (i : Int) : lsum (cvV (ptK C B us) B i i) = ptK C B us 0 i := by
  unfold cvV
  rw [cov_self]
  show lsum [ptK C B us 0 i] = _
  rw [lsum_one]
theorem range_ok {w w' : World} {B : Nat} {pt : Nat → Int → Int} {lo hi : Int} {e : Ending} (h : RangePost w B pt lo hi e w') (h1 : lo ≤ hi) (h2 : hi < 2 ^ B) (hI : I64 (lsum (cvV pt B lo hi))) :
    e = .returned (.tuple #[.int .i64 (lsum (cvV pt B lo hi)), .int .i64 0]) ∧ Ext w w' := by
  obtain ⟨h | h | h | h, hE⟩ := h
  · have := h.1; omega
  · have := h.1; omega
  · exact ⟨h.2.2, hE⟩
  · exact absurd hI h.2.1
theorem range_out {w w' : World} {B : Nat} {pt : Nat → Int → Int} {lo hi : Int} {e : Ending} (h : RangePost w B pt lo hi e w') (h1 : lo ≤ hi) (h2 : 2 ^ B ≤ hi) : e = .returned (.tuple #[.int .i64 0, .int .i64 2]) ∧ Ext w w' := by
  obtain ⟨h | h | h | h, hE⟩ := h
  · have := h.1; omega
  · exact ⟨h.2, hE⟩
  · have := h.1; omega
  · have := h.1; omega
end Go.Proofs.Ytpnbgoahjoabkaa

/- gaugerlaw16.shown: what the law shows of one small stack. -/
namespace Go.Proofs.Ytpnbgoahjoabkaa
set_option linter.unusedVariables false
open Go.RowKit
theorem K1_q (n : Nat) (i x : Int) (hn : n ≤ 3) (h0 : 0 ≤ i) (h1 : i < keys K1 n) (h : pcS [(1, 5), (6, 7)] n i = x) : ptK K1 3 us1 n i = x := by rw [K1_p hn h0 h1, h]
theorem K1_cv16 : cvV (ptK K1 3 us1) 3 1 6 = [5, 0, 0, 7] := by
  have e : covL 3 0 1 6 = [(0, 1), (1, 1), (1, 2), (0, 6)] := rfl
  unfold cvV
  rw [e]
  show [ptK K1 3 us1 0 1, ptK K1 3 us1 1 1, ptK K1 3 us1 1 2, ptK K1 3 us1 0 6] = _
  rw [K1_q 0 1 5 (by decide) (by decide) (by decide) (by decide), K1_q 1 1 0 (by decide) (by decide) (by decide) (by decide), K1_q 1 2 0 (by decide) (by decide) (by decide) (by decide), K1_q 0 6 7 (by decide) (by decide) (by decide) (by decide)]
theorem K1_cv05 : cvV (ptK K1 3 us1) 3 0 5 = [5, 0] := by
  have e : covL 3 0 0 5 = [(2, 0), (1, 2)] := rfl
  unfold cvV
  rw [e]
  show [ptK K1 3 us1 2 0, ptK K1 3 us1 1 2] = _
  rw [K1_q 2 0 5 (by decide) (by decide) (by decide) (by decide), K1_q 1 2 0 (by decide) (by decide) (by decide) (by decide)]
theorem ints4 (w : World) (a b c d : Int) (t : TypeId) : IntsAt (w.alloc (.cells #[.int .i64 a, .int .i64 b, .int .i64 c, .int .i64 d] t)) (.slice (some ⟨w.heap.size, 0, none⟩) 4 4) [a, b, c, d] := by
  have h := fun j => cell_of (heap_at w (.cells #[.int .i64 a, .int .i64 b, .int .i64 c, .int .i64 d] t) rfl) j
  refine .inr ⟨w.heap.size, 0, 4, rfl, by rw [size_alloc]; omega, fun k hk => ?_⟩
  match k, hk with
  | 0, _ => exact (h 0).trans rfl
  | 1, _ => exact (h 1).trans rfl
  | 2, _ => exact (h 2).trans rfl
  | 3, _ => exact (h 3).trans rfl
set_option maxRecDepth 20000 in
set_option maxHeartbeats 4000000 in
theorem shown16_c (w : World) : Calls Try.prog 68 #[] w fun e w' => e = .returned (.bool true) ∧ Ext w w' := by
  go_enter Try.func68, Try.ntmps68
  go_wp2_with fail
  refine (KNew_c K1 K1_ok _).mono ?_
  rintro e w1 ⟨s, g, L, rfl, hK, hs, hg, hL, hx1⟩
  have hE1 : Ext w w1 := by (repeat' (first | exact Ext.refl _ | assumption | apply Ext.allocR | apply Ext.drewR | apply Ext.drewNR | (refine Ext.trans' ?_ (by assumption))))
  have hF : KFresh w.heap.size 3 L := hL
  replace hK : KAt w1 s g K1 3 L (feedK K1 []) := hK
  clear hx1 hL hg hs
  go_wp2_with fail
  refine Calls.mono (KUpdate_c s g K1 3 L _ 1 5 _ (hK.ext ?hx) (by unfold I64; omega) (by unfold U64; omega)) ?_
  case hx => (repeat' (first | exact Ext.refl _ | assumption | apply Ext.allocR | apply Ext.drewR | apply Ext.drewNR | (refine Ext.trans' ?_ (by assumption))))
  rintro e w3 ⟨rfl, hK3, hM3⟩
  have hE3 : Ext w w3 := hF.ext (by (repeat' (first | exact Ext.refl _ | assumption | apply Ext.allocR | apply Ext.drewR | apply Ext.drewNR | (refine Ext.trans' ?_ (by assumption))))) hM3
  rw [K1_e1] at hK3 ⊢
  replace hK3 : KAt w3 s g K1 3 L (updK K1 (feedK K1 []) 1 5) := hK3
  rw [K1_s1] at hK3
  clear hM3 hE1 hK
  go_wp2_with fail
  refine Calls.mono (KUpdate_c s g K1 3 L _ 6 7 _ (hK3.ext ?hx) (by unfold I64; omega) (by unfold U64; omega)) ?_
  case hx => (repeat' (first | exact Ext.refl _ | assumption | apply Ext.allocR | apply Ext.drewR | apply Ext.drewNR | (refine Ext.trans' ?_ (by assumption))))
  rintro e w4 ⟨rfl, hK4, hM4⟩
  have hE4 : Ext w w4 := hF.ext (by (repeat' (first | exact Ext.refl _ | assumption | apply Ext.allocR | apply Ext.drewR | apply Ext.drewNR | (refine Ext.trans' ?_ (by assumption))))) hM4
  rw [K1_e2] at hK4 ⊢
  replace hK4 : KAt w4 s g K1 3 L (updK K1 (feedK K1 [(1, 5)]) 6 7) := hK4
  rw [K1_s2] at hK4
  clear hM4 hE3 hK3
  have hU : Uniq K1 3 (feedK K1 us1) (ptK K1 3 us1) := uniq_fed K1 3 us1
  have hR : ∀ W' lo hi, Ext w4 W' → U64 lo → U64 hi → Calls Try.prog 73 #[.pointer (some ⟨s, 0, none⟩), .int .u64 lo, .int .u64 hi] W' (RangePost W' 3 (ptK K1 3 us1) lo hi) := fun W' lo hi h h1 h2 => Range_c s g K1 3 L _ W' (hK4.ext h) _ hU (ptK_I64 K1 3 us1) lo hi h1 h2
  have hR2 : ∀ W' x, Ext w4 W' → U64 x → Calls Try.prog 74 #[.pointer (some ⟨s, 0, none⟩), .int .u64 x] W' (RangePost W' 3 (ptK K1 3 us1) 0 x) := fun W' x h h1 => Rank_c s g K1 3 L _ W' (hK4.ext h) _ hU (ptK_I64 K1 3 us1) x h1
  have hP : ∀ W' lo hi, Ext w4 W' → U64 lo → U64 hi → Calls Try.prog 71 #[.pointer (some ⟨s, 0, none⟩), .int .u64 lo, .int .u64 hi] W' (PartsPost W' 3 (ptK K1 3 us1) lo hi) := fun W' lo hi h h1 h2 => Parts_c s g K1 3 L _ W' (hK4.ext h) _ hU lo hi h1 h2
  clear hU hK4 hF
  go_wp2_with fail
  refine (hR _ 1 6 (by (repeat' (first | exact Ext.refl _ | assumption | apply Ext.allocR | apply Ext.drewR | apply Ext.drewNR | (refine Ext.trans' ?_ (by assumption))))) ⟨by decide, by decide⟩ ⟨by decide, by decide⟩).mono ?_
  rintro e w5 ⟨hp, hx5⟩
  rw [K1_cv16] at hp
  obtain ⟨_, _, rfl⟩ := (hp.resolve_left (fun h => by have := h.1; omega)).resolve_left (fun h => by have := h.1; omega) |>.resolve_right (fun h => h.2.1 ⟨by decide, by decide⟩)
  have hE5 : Ext w4 w5 := by (repeat' (first | exact Ext.refl _ | assumption | apply Ext.allocR | apply Ext.drewR | apply Ext.drewNR | (refine Ext.trans' ?_ (by assumption))))
  clear hx5 hp
  go_wp2_with fail
  refine (hR2 _ 5 (hE5.trans' (by (repeat' (first | exact Ext.refl _ | assumption | apply Ext.allocR | apply Ext.drewR | apply Ext.drewNR | (refine Ext.trans' ?_ (by assumption)))))) ⟨by decide, by decide⟩).mono ?_
  rintro e w6 ⟨hp, hx6⟩
  rw [K1_cv05] at hp
  obtain ⟨_, _, rfl⟩ := (hp.resolve_left (fun h => by have := h.1; omega)).resolve_left (fun h => by have := h.1; omega) |>.resolve_right (fun h => h.2.1 ⟨by decide, by decide⟩)
  have hE6 : Ext w4 w6 := hE5.trans' (by (repeat' (first | exact Ext.refl _ | assumption | apply Ext.allocR | apply Ext.drewR | apply Ext.drewNR | (refine Ext.trans' ?_ (by assumption)))))
  clear hx6 hp hE5
  go_wp2_with fail
  refine (hP _ 1 6 (hE6.trans' (by (repeat' (first | exact Ext.refl _ | assumption | apply Ext.allocR | apply Ext.drewR | apply Ext.drewNR | (refine Ext.trans' ?_ (by assumption)))))) ⟨by decide, by decide⟩ ⟨by decide, by decide⟩).mono ?_
  rintro e w7 hp
  obtain ⟨_, v, rfl, ho, hx7⟩ := (hp.resolve_left (fun h => by have := h.1; omega)).resolve_left (fun h => by have := h.1; omega)
  rw [K1_cv16] at ho
  have hv := IntsAt.of_row ho
  obtain ⟨pv, cv, rfl⟩ := own_sl ho
  have hE7 : Ext w4 w7 := hE6.trans' (by (repeat' (first | exact Ext.refl _ | assumption | apply Ext.allocR | apply Ext.drewR | apply Ext.drewNR | (refine Ext.trans' ?_ (by assumption)))))
  clear hx7 hp hE6 ho
  go_wp2_with fail
  refine (hR _ 2 1 (hE7.trans' (by (repeat' (first | exact Ext.refl _ | assumption | apply Ext.allocR | apply Ext.drewR | apply Ext.drewNR | (refine Ext.trans' ?_ (by assumption)))))) ⟨by decide, by decide⟩ ⟨by decide, by decide⟩).mono ?_
  rintro e w8 ⟨hp, hx8⟩
  obtain ⟨_, rfl⟩ := hp.resolve_right (fun h => by rcases h with h | h | h <;> (have := h.1; omega))
  have hE8 : Ext w4 w8 := hE7.trans' (by (repeat' (first | exact Ext.refl _ | assumption | apply Ext.allocR | apply Ext.drewR | apply Ext.drewNR | (refine Ext.trans' ?_ (by assumption)))))
  have hv8 : IntsAt w8 _ _ := hv.ext (by (repeat' (first | exact Ext.refl _ | assumption | apply Ext.allocR | apply Ext.drewR | apply Ext.drewNR | (refine Ext.trans' ?_ (by assumption)))))
  clear hx8 hp hE7 hv
  go_wp2_with fail
  refine (hR _ 2 8 (hE8.trans' (by (repeat' (first | exact Ext.refl _ | assumption | apply Ext.allocR | apply Ext.drewR | apply Ext.drewNR | (refine Ext.trans' ?_ (by assumption)))))) ⟨by decide, by decide⟩ ⟨by decide, by decide⟩).mono ?_
  rintro e w9 ⟨hp, hx9⟩
  obtain ⟨_, rfl⟩ := (hp.resolve_left (fun h => by have := h.1; omega)).resolve_right (fun h => by rcases h with h | h <;> (have := h.1; omega))
  have hE9 : Ext w4 w9 := hE8.trans' (by (repeat' (first | exact Ext.refl _ | assumption | apply Ext.allocR | apply Ext.drewR | apply Ext.drewNR | (refine Ext.trans' ?_ (by assumption)))))
  have hv9 : IntsAt w9 _ _ := hv8.ext (by (repeat' (first | exact Ext.refl _ | assumption | apply Ext.allocR | apply Ext.drewR | apply Ext.drewNR | (refine Ext.trans' ?_ (by assumption)))))
  clear hx9 hp hE8 hv8 hR hR2 hP
  rw [show lsum [5, 0, 0, 7] = 12 from rfl, show lsum [5, 0] = 5 from rfl]
  go_wp2_with fail
  refine Calls.mono (Same_c _ _ _ _ _ (hv9.ext (Ext.alloc' _ _)) (ints4 w9 5 0 0 7 _) (by decide) (by decide)) ?_
  rintro e w10 ⟨rfl, hx10⟩
  rw [decide_eq_true (rfl : ([5, 0, 0, 7] : List Int) = [5, 0, 0, 7])]
  go_wp2
  go_ret
  exact ⟨rfl, hE4.trans' (hE9.trans' (by (repeat' (first | exact Ext.refl _ | assumption | apply Ext.allocR | apply Ext.drewR | apply Ext.drewNR | (refine Ext.trans' ?_ (by assumption))))))⟩
end Go.Proofs.Ytpnbgoahjoabkaa

/- gaugerlaw16.fed makes a stack and feeds it, and cuts two keys: it never refuses. -/
namespace Go.Proofs.Ytpnbgoahjoabkaa
set_option linter.unusedVariables false
open Go.RowKit
def KFed16Post (w : World) (C : Cfg) (us : List (Int × Int)) (ka kb : Int) (e : Ending) (w' : World) : Prop :=
  ∃ (s g : Nat) (L : Nat → Lev), e = .returned (.tuple #[.pointer (some ⟨s, 0, none⟩), .agg #[.int .i64 C.bits, .int .i64 C.rows, .int .i64 C.width, .int .i64 C.mode, .int .u64 C.seed], .int .u64 (min (ka % keys C 0) (kb % keys C 0)), .int .u64 (max (ka % keys C 0) (kb % keys C 0))]) ∧
    KAt w' s g C C.bits.toNat L (feedK C (fus us 0 60)) ∧ w.heap.size ≤ s ∧ w.heap.size ≤ g ∧ (∀ n, n ≤ C.bits.toNat → w.heap.size ≤ (L n).s ∧ w.heap.size ≤ (L n).b ∧ w.heap.size ≤ (L n).c) ∧ Ext w w'
set_option maxRecDepth 20000 in
set_option maxHeartbeats 4000000 in
theorem fed16_c (x : Cfg) (hx : x.Raw) (nb : Int) (hn1 : 1 ≤ nb) (hn2 : nb ≤ 20) (m : Int) (hm1 : 0 ≤ m) (hm2 : m ≤ 3) (ka kb : Int) (hka : U64 ka) (hkb' : U64 kb) (us : List (Int × Int)) (hus : UpsOk us) (v : Value) (w : World) (hv : UpsAt w v us) (hul : us.length ≤ 140737488355328) :
    Calls Try.prog 69 #[.agg #[.int .i64 x.bits, .int .i64 x.rows, .int .i64 x.width, .int .i64 x.mode, .int .u64 x.seed, v], .int .i64 nb, .int .i64 m, .int .u64 ka, .int .u64 kb] w (KFed16Post w (kcfg x nb m) us ka kb) := by
  obtain ⟨vp, vc, rfl⟩ := hv.sl
  have HV := Lib.hid hv
  have hok := kcfg_ok x hx.s (m := m) hn1 hn2 hm2
  have hbits1 := hok.b1
  have hbits2 := hok.b2
  clear hv
  go_enter Try.func69, Try.ntmps69
  go_wp2_with fail
  refine (Any_c x hx nb 9 hn1 hn2 (by decide) (by decide) _).mono ?_
  rintro e w1 ⟨rfl, hb1⟩
  have hs1 := hb1.size
  simp only [size_alloc] at hs1
  have kp : w1.heap[w.heap.size]? = some (.cells #[.int .i64 x.bits, .int .i64 x.rows, .int .i64 x.width, .int .i64 x.mode, .int .u64 x.seed, .slice vp us.length vc] 97 (0, 0)) := by
    rw [hb1.block _ (by simp only [size_alloc]; omega), heap_old _ _ (by rw [size_alloc]; omega)]
    exact heap_at _ _ rfl
  have kr : w1.heap[w.heap.size + 1]? = some (.cells #[.int .i64 0, .int .i64 0, .int .i64 0, .int .i64 0, .int .u64 0] 24 (0, 0)) := by
    rw [hb1.block _ (by simp only [size_alloc]; omega)]
    exact heap_at _ _ (by simp only [size_alloc])
  have hE1 : Ext w w1 := by (repeat' (first | exact Ext.refl _ | assumption | apply Ext.allocR | apply Ext.drewR | apply Ext.drewNR | (refine Ext.trans' ?_ (by assumption))))
  clear hb1
  have hmk : (mkC x nb 9).bits = 1 + x.bits % 65536 % nb := rfl
  generalize hC : kcfg x nb m = C at *
  generalize hA : mkC x nb 9 = A at *
  have HCA := Lib.hid (And.intro hC hA)
  clear hC hA hmk
  go_upto_if 25 with (fail)
  go_cut [] (fun wx => wx.heap[w1.heap.size]? = some (.cells #[.int .i64 C.bits, .int .i64 C.rows, .int .i64 C.width, .int .i64 C.mode, .int .u64 C.seed] 24 (0, 0)) ∧ Ext w1 wx)
  case first =>
    have hbx := heap_at w1 (.cells #[.int .i64 A.bits, .int .i64 A.rows, .int .i64 A.width, .int .i64 A.mode, .int .u64 A.seed] 24) rfl
    by_cases hm : 0 < m
    · have hp := kcfg_pos x nb hm
      rw [HCA.out.1, HCA.out.2] at hp
      have HP := Lib.hid hp
      have p3 := (cell_of hbx 3).trans rfl
      have f3 := frozen_of hbx 3
      clear hp
      go_wp2
      go_meet
      refine ⟨(heap_at w1 _ rfl).trans ?_, Ext.alloc' _ _⟩
      rw [← HP.out.1, ← HP.out.2.1, ← HP.out.2.2.1, ← HP.out.2.2.2.1, ← HP.out.2.2.2.2]
    · have hp := kcfg_none x nb hm
      rw [HCA.out.1, HCA.out.2] at hp
      subst hp
      clear HCA
      go_wp2
      go_meet
      exact ⟨hbx, Ext.alloc' _ _⟩
  case rest =>
    obtain ⟨kc, hxc⟩ := hcut
    have hsc := hxc.size
    have hcl := lt_of kc
    have kp2 := hxc.keep kp
    have kr2 := hxc.keep kr
    have hEc : Ext w wc := hE1.trans' hxc
    have hCc := CfgAt.of kc
    have c0 := hCc.c0
    have c1 := hCc.c1
    have c2 := hCc.c2
    have c3 := hCc.c3
    have c4 := hCc.c4
    clear hCc HCA kp kr hE1 hxc
    have hkb := keys_bd C hok 0 (Int.le_refl 0)
    have hkz : (keys C 0 == 0) = false := by simp; omega
    go_wp2_with fail
    refine (KeysR_c C hok 0 (Int.le_refl 0) (by omega) _).mono ?_
    rintro e wk ⟨rfl, hxk⟩
    clear c0 c1 c2 c3 c4
    replace kc := hxk.keep kc
    replace kp2 := hxk.keep kp2
    replace kr2 := hxk.keep kr2
    replace hEc := hEc.trans' hxk
    replace hsc : w1.heap.size ≤ wk.heap.size := Nat.le_trans hsc hxk.size
    replace hcl := lt_of kc
    have hCk := CfgAt.of kc
    have c0 := hCk.c0
    have c1 := hCk.c1
    have c2 := hCk.c2
    have c3 := hCk.c3
    have c4 := hCk.c4
    clear hCk hxk
    generalize hKN : keys C 0 = KN at *
    have HKN := Lib.hid hKN
    clear hKN
    go_wp2_with fail
    refine (KNew_c C hok _).mono ?_
    rintro e w2 ⟨s, g, L, rfl, hK, hs, hg, hL, hx2⟩
    obtain ⟨B, hB⟩ : ∃ B : Nat, C.bits = B := ⟨C.bits.toNat, by omega⟩
    have hBt : C.bits.toNat = B := by omega
    rw [hBt] at hK hL
    have hBd : B ≤ 59 := by omega
    have HB := Lib.hid hB
    have HBT := Lib.hid hBt
    have hE2 : Ext w w2 := hEc.trans' hx2
    have hs2 := hx2.size
    have KP := Lib.hid (hx2.keep kp2)
    have KR := Lib.hid (hx2.keep kr2)
    have KC := Lib.hid (hx2.keep kc)
    have hF : KFresh wk.heap.size B L := hL
    have hnc : ∀ k, k < wk.heap.size → ¬ cellsOf B L k := fun k hk hc => by obtain ⟨n, hn, rfl⟩ := hc; have := (hF n hn).2.2; omega
    clear hx2 c0 c1 c2 c3 c4 hL hB hBt kp2 kr2 kc
    go_wp2
    have hM0 : Mod (cellsOf B L) w2 w2 := Mod.refl _ _
    have hK0 : KAt w2 s g C B L (feedK C (fus us 0 0)) := by rw [fus_self]; exact hK
    clear hK
    go_loopw [18] (fun u wr => ∃ k : Nat, 0 ≤ k ∧ (k = 0 ∨ (k ≤ 60 ∧ k ≤ us.length)) ∧ u = .int .i64 k ∧ Mod (cellsOf B L) w2 wr ∧ KAt wr s g C B L (feedK C (fus us 0 k))) (fun u _ => 60 - (intOf u).toNat)
    case atStart => exact ⟨0, Nat.le_refl _, .inl rfl, rfl, hM0, hK0⟩
    case round =>
      clear hM0 hK0
      obtain ⟨k, hik, hkj, rfl, hM, hK⟩ := hrel
      have hMs := hM.size
      have hsz1 := hEc.size
      have qp := hM.keep KP.out (hnc _ (by omega))
      have qc := hM.keep KC.out (hnc _ hcl)
      have q5 := (cell_of qp 5).trans rfl
      have lp := lt_of qp
      have lc := lt_of qc
      have hCq := CfgAt.of qc
      have c0 := hCq.c0
      have c1 := hCq.c1
      have c2 := hCq.c2
      have c3 := hCq.c3
      have c4 := hCq.c4
      clear hCq
      by_cases hgo : k < us.length ∧ k < 60
      · obtain ⟨hg1, hg2⟩ := hgo
        have hkj60 : k < 60 := by omega
        obtain ⟨ug, off, rfl, hul0, d0', d1'⟩ := HV.out.one hg1
        have hnu : ¬ cellsOf B L ug := hnc _ (by omega)
        have d0 := (mcell hM (b := ug) (by omega) hnu (off + k * 2)).trans (((bcell hE2).1 _ _ hul0).trans d0')
        have d1 := (mcell hM (b := ug) (by omega) hnu (off + k * 2 + 1)).trans (((bcell hE2).1 _ _ hul0).trans d1')
        have hgl2 : ug < wr.heap.size := by omega
        have hf := fus_snoc us (Nat.zero_le k) hg1
        have hu := hus _ (List.getElem_mem hg1)
        have hget : us.getD k (0, 0) = us[k] := by simp [hg1]
        rw [hget] at hf
        generalize us[k] = uu at *
        obtain ⟨uk, ud⟩ := uu
        have HF := Lib.hid hf
        clear hf hget d0' d1'
        have herr := feedK_ok C hok HB.out (fus us 0 k) (by have := fus_len us 0 k; omega) (uk, ud)
        have HERR := Lib.hid herr
        have HQ := Lib.hid qp
        have HK := Lib.hid hK
        clear herr qp qc hK
        go_upto_region 11 with (fail)
        go_cut [19] (fun s19 wx => ∃ bu : Nat, s19 = .pointer (some ⟨bu, 0, none⟩) ∧ wx.heap[bu]? = some (.cells #[.int .u64 (cutK C 0 uk), .int .i64 (cutD C.mode ud)] 38 (0, 0)) ∧ Ext wr wx ∧ wr.heap.size ≤ bu)
        case first =>
          have hC0 := af_drew wr
          refine pi_start (fun w' => ∃ x : After wr, w' = x.w) [] (by kernel_rfl) ?_
          refine pi_c 0 (by assumption) rfl (by kernel_rfl) (by kernel_rfl) (fun _ _ _ _ h => h) (fun K hK => ?_)
          go_big_quiet_op
          refine hK _ ?_
          clear hK K
          refine pi_t 1 rfl (by kernel_rfl) (by kernel_rfl) (fun _ _ _ _ h => h) (fun K hK => ?_)
          go_big_quiet_op
          refine hK _ ?_
          clear hK K
          refine pi_c 2 (by assumption) rfl (by kernel_rfl) (by kernel_rfl) (fun _ _ _ _ h => h) (fun K hK => ?_)
          go_big_quiet_op
          refine hK _ ?_
          clear hK K
          refine pi_t 3 rfl (by kernel_rfl) (by kernel_rfl) (fun _ _ _ _ h => h) (fun K hK => ?_)
          go_big_quiet_op
          refine hK _ ?_
          clear hK K
          refine pi_t 4 rfl (by kernel_rfl) (by kernel_rfl) (fun _ _ _ _ h => h) (fun K hK => ?_)
          go_big_quiet_op
          refine hK _ ?_
          clear hK K
          refine pi_c 5 (by assumption) rfl (by kernel_rfl) (by kernel_rfl) (fun _ _ _ _ h => h) (fun K hK => ?_)
          go_big_quiet_op
          refine hK _ ?_
          clear hK K
          refine pi_b 6 7 rfl rfl (by kernel_rfl) (fun K hK => ?_) (fun K hK => ?_)
          · go_wp2_with (go_at_call 50; refine (Cut15_c C hok uk ud hu.1 hu.2 _).mono ?_; rintro e w3 ⟨rfl, hx3⟩)
            have hx3' : Ext wr w3 := Ext.trans' (Below.drew (Ext.refl wr)) hx3
            have hs3 := hx3'.size
            refine hK _ _ (fun _ h => af_step h hx3) ?_
            clear hK K
            refine pi_l 7 rfl (by kernel_rfl) (fun K hK => ?_)
            go_wp2
            refine hK _ _ (fun _ h => af_step h (Ext.alloc' _ _)) ?_
            clear hK K
            refine pi_l 8 rfl (by kernel_rfl) (fun K hK => ?_)
            go_wp2
            refine hK _ _ (fun _ _ => ⟨⟨_, hx3'.allocR _⟩, rfl⟩) ?_
            clear hK K
            refine pi_end (by kernel_rfl) ?_
            go_wp2_with fail
            go_meet
            exact ⟨w3.heap.size, rfl, heap_at _ _ rfl, hx3'.allocR _, hs3⟩
          · go_wp2
            refine hK _ _ (fun _ h => af_step h (Ext.alloc' _ _)) ?_
            clear hK K
            refine pi_l 6 rfl (by kernel_rfl) (fun K hK => ?_)
            go_wp2_with (go_at_call 50; refine (Cut15_c C hok uk ud hu.1 hu.2 _).mono ?_; rintro e w3 ⟨rfl, hx3⟩)
            refine hK _ _ (fun _ h => af_step h hx3) ?_
            clear hK K
            have hs3 : (wr.alloc (.cells #[.int .u64 0, .int .i64 0] 38)).heap.size ≤ w3.heap.size := hx3.size
            rw [size_alloc] at hs3
            have hx3' : Ext wr w3 := Ext.trans' (Ext.alloc' wr _) (Ext.trans' (Below.drew (Ext.refl _)) hx3)
            have hbx : w3.heap[wr.heap.size]? = some (.cells #[.int .u64 0, .int .i64 0] 38 (0, 0)) := by
              rw [hx3.block _ (by show _ < (wr.alloc _).heap.size; rw [size_alloc]; exact Nat.lt_succ_self _)]
              exact heap_at wr _ rfl
            have p0 := (cell_of hbx 0).trans rfl
            have p1 := (cell_of hbx 1).trans rfl
            have f0 := frozen_of hbx 0
            have f1 := frozen_of hbx 1
            refine pi_l 8 rfl (by kernel_rfl) (fun K hK => ?_)
            go_wp2
            refine hK _ _ (fun _ _ => ⟨⟨_, (hx3'.setR (Nat.le_refl _) _).setR (Nat.le_refl _) _⟩, rfl⟩) ?_
            clear hK K
            refine pi_end (by kernel_rfl) ?_
            go_wp2_with fail
            go_meet
            exact ⟨wr.heap.size, rfl, set2 hbx _ _, (hx3'.setR (Nat.le_refl _) _).setR (Nat.le_refl _) _, Nat.le_refl _⟩
        case rest =>
          obtain ⟨bu, rfl, hbu, hxw, hbul⟩ := hcut
          have b0 := (cell_of hbu 0).trans rfl
          have b1 := (cell_of hbu 1).trans rfl
          have hdI : I64 (cutD C.mode ud) := by have := cutD_bd C.mode ud; unfold I64; omega
          have hkU : U64 (cutK C 0 uk) := by have := cutK_bd C hok 0 uk (Int.le_refl 0); have := keys_bd C hok 0 (Int.le_refl 0); unfold U64; omega
          clear c0 c1 c2 c3 c4 q5 d0 d1
          go_wp2_with fail
          refine Calls.mono (KUpdate_c s g C B L _ _ _ _ (HK.out.ext hxw) hdI hkU) ?_
          rintro e w4 ⟨rfl, hK4, hM4⟩
          rw [HERR.out] at hK4 ⊢
          go_wp2
          go_roundw
          case rel =>
            refine ⟨k + 1, by omega, .inr ⟨by omega, by omega⟩, by go_num, hM.trans ((hxw.mod _).trans hM4), ?_⟩
            rw [HF.out, feedK_snoc]
            exact hK4
          case measure => simp [intOf]; omega
      · have hfe := fus_end us (i := 0) (j := 60) (k := k) (by omega) (by omega) hkj hgo
        have HFE := Lib.hid hfe
        have qr := hM.keep KR.out (hnc _ (by omega))
        have p0 := (cell_of qr 0).trans rfl
        have p1 := (cell_of qr 1).trans rfl
        have p2 := (cell_of qr 2).trans rfl
        have p3 := (cell_of qr 3).trans rfl
        have p4 := (cell_of qr 4).trans rfl
        have f0 := frozen_of qr 0
        have f1 := frozen_of qr 1
        have f2 := frozen_of qr 2
        have f3 := frozen_of qr 3
        have f4 := frozen_of qr 4
        clear hfe
        have hEr : Ext w wr := Below.trans hE2 (hM.below (B := w.heap.size) (by omega) (fun k hk => by obtain ⟨n, hn, rfl⟩ := hk; have := (hF n hn).2.2; omega))
        have tri : ∃ lo2 hi2, min (ka % KN) (kb % KN) = lo2 ∧ max (ka % KN) (kb % KN) = hi2 ∧ ((((kb % KN < ka % KN) = False) ∧ ((ka % KN < kb % KN) = True) ∧ ka % KN = lo2 ∧ kb % KN = hi2) ∨ (((kb % KN < ka % KN) = False) ∧ ((ka % KN < kb % KN) = False) ∧ ka % KN = lo2 ∧ lo2 = hi2) ∨ (((kb % KN < ka % KN) = True) ∧ ((ka % KN < kb % KN) = False) ∧ kb % KN = lo2 ∧ ka % KN = hi2)) := by
          refine ⟨_, _, rfl, rfl, ?_⟩
          rcases Int.lt_trichotomy (ka % KN) (kb % KN) with h | h | h
          · exact .inl ⟨eq_false (by omega), eq_true h, by omega, by omega⟩
          · exact .inr (.inl ⟨eq_false (by omega), eq_false (by omega), by omega, by omega⟩)
          · exact .inr (.inr ⟨eq_true h, eq_false (by omega), by omega, by omega⟩)
        obtain ⟨lo2, hi2, hmn, hmx, tri⟩ := tri
        have hend : ∀ Wf : World, Ext w Wf → (∀ j, j ≠ w.heap.size + 1 → Wf.heap[j]? = wr.heap[j]?) → KFed16Post w C us ka kb (.returned (.tuple #[.pointer (some ⟨s, 0, none⟩), .agg #[.int .i64 C.bits, .int .i64 C.rows, .int .i64 C.width, .int .i64 C.mode, .int .u64 C.seed], .int .u64 lo2, .int .u64 hi2])) Wf := by
          intro Wf hEf hof
          refine ⟨s, g, L, by rw [HKN.out, hmn, hmx], ?_, by omega, by omega, fun n hn => ?_, hEf⟩
          · rw [HBT.out, ← HFE.out]
            have hlo : ∀ k, k ≠ w.heap.size + 1 → Wf.heap[k]? = wr.heap[k]? := hof
            refine ⟨by rw [hlo s (by omega)]; exact hK.ex, by rw [hlo g (by omega)]; exact hK.row, fun n hn => (hK.lev n hn).keep (hlo _ ?_) (hlo _ ?_) (hlo _ ?_), hK.sep, hK.ok, hK.hB⟩
            all_goals
              have := hF n hn
              omega
          · have := hF n (by rw [HBT.out] at hn; exact hn)
            omega
        have HEND := Lib.hid hend
        have HK := Lib.hid hK
        clear hend hK hmn hmx
        obtain ⟨t1, t2, t3, t4⟩ | ⟨t1, t2, t3, t4⟩ | ⟨t1, t2, t3, t4⟩ := tri
        all_goals
         have HT := Lib.hid (And.intro t3 t4)
         clear t3 t4
         have hka0 := hka.1
         have hka1 := hka.2
         have hkb0 := hkb'.1
         have hkb1 := hkb'.2
         by_cases hg1 : k < us.length
         · have hg2 : ¬ k < 60 := fun h => hgo ⟨hg1, h⟩
           go_wp2
           have hC0 := af_drew wr
           refine pi_start (fun w' => ∃ x : After wr, w' = x.w) [17] (by kernel_rfl) ?_
           refine pi_t 0 rfl (by kernel_rfl) (by kernel_rfl) (fun _ _ _ _ h => h) (fun K hK => ?_)
           go_big_quiet_op
           refine hK _ ?_
           clear hK K
           refine pi_t 2 rfl (by kernel_rfl) (by kernel_rfl) (fun _ _ _ _ h => h) (fun K hK => ?_)
           go_big_quiet_op
           refine hK _ ?_
           clear hK K
           refine pi_t 3 rfl (by kernel_rfl) (by kernel_rfl) (fun _ _ _ _ h => h) (fun K hK => ?_)
           go_big_quiet_op
           refine hK _ ?_
           clear hK K
           refine pi_t 4 rfl (by kernel_rfl) (by kernel_rfl) (fun _ _ _ _ h => h) (fun K hK => ?_)
           go_big_quiet_op
           refine hK _ ?_
           clear hK K
           refine pi_t 5 rfl (by kernel_rfl) (by kernel_rfl) (fun _ _ _ _ h => h) (fun K hK => ?_)
           go_big_quiet_op
           refine hK _ ?_
           clear hK K
           refine pi_t 6 rfl (by kernel_rfl) (by kernel_rfl) (fun _ _ _ _ h => h) (fun K hK => ?_)
           go_big_quiet_op
           refine hK _ ?_
           clear hK K
           refine pi_t 7 rfl (by kernel_rfl) (by kernel_rfl) (fun _ _ _ _ h => h) (fun K hK => ?_)
           go_big_quiet_op
           refine hK _ ?_
           clear hK K
           refine pi_t 8 rfl (by kernel_rfl) (by kernel_rfl) (fun _ _ _ _ h => h) (fun K hK => ?_)
           go_big_quiet_op
           refine hK _ ?_
           clear hK K
           refine pi_t 9 rfl (by kernel_rfl) (by kernel_rfl) (fun _ _ _ _ h => h) (fun K hK => ?_)
           go_big_quiet_op
           refine hK _ ?_
           clear hK K
           refine pi_t 10 rfl (by kernel_rfl) (by kernel_rfl) (fun _ _ _ _ h => h) (fun K hK => ?_)
           go_big_quiet_op
           refine hK _ ?_
           clear hK K
           refine pi_t 11 rfl (by kernel_rfl) (by kernel_rfl) (fun _ _ _ _ h => h) (fun K hK => ?_)
           go_big_quiet_op
           refine hK _ ?_
           clear hK K
           refine pi_t 12 rfl (by kernel_rfl) (by kernel_rfl) (fun _ _ _ _ h => h) (fun K hK => ?_)
           go_big_quiet_op
           refine hK _ ?_
           clear hK K
           refine pi_t 13 rfl (by kernel_rfl) (by kernel_rfl) (fun _ _ _ _ h => h) (fun K hK => ?_)
           go_big_quiet_op
           refine hK _ ?_
           clear hK K
           refine pi_t 14 rfl (by kernel_rfl) (by kernel_rfl) (fun _ _ _ _ h => h) (fun K hK => ?_)
           go_big_quiet_op
           refine hK _ ?_
           clear hK K
           refine pi_t 15 rfl (by kernel_rfl) (by kernel_rfl) (fun _ _ _ _ h => h) (fun K hK => ?_)
           go_big_quiet_op
           refine hK _ ?_
           clear hK K
           refine pi_t 16 rfl (by kernel_rfl) (by kernel_rfl) (fun _ _ _ _ h => h) (fun K hK => ?_)
           go_big_quiet_op
           refine hK _ ?_
           clear hK K
           refine pi_c 1 (by assumption) rfl (by kernel_rfl) (by kernel_rfl) (fun _ _ _ _ h => h) (fun K hK => ?_)
           go_big_quiet_op
           refine hK _ ?_
           clear hK K
           refine pi_l 17 rfl (by kernel_rfl) (fun K hK => ?_)
           go_wp2
           refine hK _ _ (by simp) ?_
           clear hK K
           refine pi_t 18 rfl (by kernel_rfl) (by kernel_rfl) (fun _ _ _ _ h => h) (fun K hK => ?_)
           go_big_quiet_op
           refine hK _ ?_
           clear hK K
           refine pi_t 19 rfl (by kernel_rfl) (by kernel_rfl) (fun _ _ _ _ h => h) (fun K hK => ?_)
           go_big_quiet_op
           refine hK _ ?_
           clear hK K
           refine pi_end (by kernel_rfl) ?_
           go_wp2_with fail
           refine fin5 (Φ := fun W' => bodyPost _ _ _ _ _ W'.drew) (w := w) (W := wr) qr hEr (by omega) ?_
           intro Wf hf hE5 hof _
           have q0 := (cell_of hf 0).trans rfl
           have q1 := (cell_of hf 1).trans rfl
           have q2 := (cell_of hf 2).trans rfl
           have q3 := (cell_of hf 3).trans rfl
           have q4 := (cell_of hf 4).trans rfl
           exact bodyPost_ret (v := .tuple #[.pointer (some ⟨s, 0, none⟩), .agg #[.int .i64 C.bits, .int .i64 C.rows, .int .i64 C.width, .int .i64 C.mode, .int .u64 C.seed], .int .u64 lo2, .int .u64 hi2]) (by simp [results, Try.results69, go_sem, q0, q1, q2, q3, q4, HT.out]) rfl (HEND.out _ (Below.drew hE5) hof)
         · go_wp2
           have hC0 := af_drew wr
           refine pi_start (fun w' => ∃ x : After wr, w' = x.w) [17] (by kernel_rfl) ?_
           refine pi_t 0 rfl (by kernel_rfl) (by kernel_rfl) (fun _ _ _ _ h => h) (fun K hK => ?_)
           go_big_quiet_op
           refine hK _ ?_
           clear hK K
           refine pi_t 2 rfl (by kernel_rfl) (by kernel_rfl) (fun _ _ _ _ h => h) (fun K hK => ?_)
           go_big_quiet_op
           refine hK _ ?_
           clear hK K
           refine pi_t 3 rfl (by kernel_rfl) (by kernel_rfl) (fun _ _ _ _ h => h) (fun K hK => ?_)
           go_big_quiet_op
           refine hK _ ?_
           clear hK K
           refine pi_t 4 rfl (by kernel_rfl) (by kernel_rfl) (fun _ _ _ _ h => h) (fun K hK => ?_)
           go_big_quiet_op
           refine hK _ ?_
           clear hK K
           refine pi_t 5 rfl (by kernel_rfl) (by kernel_rfl) (fun _ _ _ _ h => h) (fun K hK => ?_)
           go_big_quiet_op
           refine hK _ ?_
           clear hK K
           refine pi_t 6 rfl (by kernel_rfl) (by kernel_rfl) (fun _ _ _ _ h => h) (fun K hK => ?_)
           go_big_quiet_op
           refine hK _ ?_
           clear hK K
           refine pi_t 7 rfl (by kernel_rfl) (by kernel_rfl) (fun _ _ _ _ h => h) (fun K hK => ?_)
           go_big_quiet_op
           refine hK _ ?_
           clear hK K
           refine pi_t 8 rfl (by kernel_rfl) (by kernel_rfl) (fun _ _ _ _ h => h) (fun K hK => ?_)
           go_big_quiet_op
           refine hK _ ?_
           clear hK K
           refine pi_t 9 rfl (by kernel_rfl) (by kernel_rfl) (fun _ _ _ _ h => h) (fun K hK => ?_)
           go_big_quiet_op
           refine hK _ ?_
           clear hK K
           refine pi_t 10 rfl (by kernel_rfl) (by kernel_rfl) (fun _ _ _ _ h => h) (fun K hK => ?_)
           go_big_quiet_op
           refine hK _ ?_
           clear hK K
           refine pi_t 11 rfl (by kernel_rfl) (by kernel_rfl) (fun _ _ _ _ h => h) (fun K hK => ?_)
           go_big_quiet_op
           refine hK _ ?_
           clear hK K
           refine pi_t 12 rfl (by kernel_rfl) (by kernel_rfl) (fun _ _ _ _ h => h) (fun K hK => ?_)
           go_big_quiet_op
           refine hK _ ?_
           clear hK K
           refine pi_t 13 rfl (by kernel_rfl) (by kernel_rfl) (fun _ _ _ _ h => h) (fun K hK => ?_)
           go_big_quiet_op
           refine hK _ ?_
           clear hK K
           refine pi_t 14 rfl (by kernel_rfl) (by kernel_rfl) (fun _ _ _ _ h => h) (fun K hK => ?_)
           go_big_quiet_op
           refine hK _ ?_
           clear hK K
           refine pi_t 15 rfl (by kernel_rfl) (by kernel_rfl) (fun _ _ _ _ h => h) (fun K hK => ?_)
           go_big_quiet_op
           refine hK _ ?_
           clear hK K
           refine pi_t 16 rfl (by kernel_rfl) (by kernel_rfl) (fun _ _ _ _ h => h) (fun K hK => ?_)
           go_big_quiet_op
           refine hK _ ?_
           clear hK K
           refine pi_c 1 (by assumption) rfl (by kernel_rfl) (by kernel_rfl) (fun _ _ _ _ h => h) (fun K hK => ?_)
           go_big_quiet_op
           refine hK _ ?_
           clear hK K
           refine pi_l 17 rfl (by kernel_rfl) (fun K hK => ?_)
           go_wp2
           refine hK _ _ (by simp) ?_
           clear hK K
           refine pi_t 18 rfl (by kernel_rfl) (by kernel_rfl) (fun _ _ _ _ h => h) (fun K hK => ?_)
           go_big_quiet_op
           refine hK _ ?_
           clear hK K
           refine pi_t 19 rfl (by kernel_rfl) (by kernel_rfl) (fun _ _ _ _ h => h) (fun K hK => ?_)
           go_big_quiet_op
           refine hK _ ?_
           clear hK K
           refine pi_end (by kernel_rfl) ?_
           go_wp2_with fail
           refine fin5 (Φ := fun W' => bodyPost _ _ _ _ _ W'.drew) (w := w) (W := wr) qr hEr (by omega) ?_
           intro Wf hf hE5 hof _
           have q0 := (cell_of hf 0).trans rfl
           have q1 := (cell_of hf 1).trans rfl
           have q2 := (cell_of hf 2).trans rfl
           have q3 := (cell_of hf 3).trans rfl
           have q4 := (cell_of hf 4).trans rfl
           exact bodyPost_ret (v := .tuple #[.pointer (some ⟨s, 0, none⟩), .agg #[.int .i64 C.bits, .int .i64 C.rows, .int .i64 C.width, .int .i64 C.mode, .int .u64 C.seed], .int .u64 lo2, .int .u64 hi2]) (by simp [results, Try.results69, go_sem, q0, q1, q2, q3, q4, HT.out]) rfl (HEND.out _ (Below.drew hE5) hof)
end Go.Proofs.Ytpnbgoahjoabkaa

/- gaugerref15.Plain, walked: has no key less than 0? -/
namespace Go.Proofs.Ytpnbgoahjoabkaa
set_option linter.unusedVariables false
open Go.RowKit
theorem Has15_zero (us : List (Int × Int)) (hus : UpsOk us) (v : Value) (C : Cfg) (hok : C.Ok) (j : Int) (hj : U64 j) (w : World) (hv : UpsAt w v us) (hul : us.length ≤ 140737488355328) :
    Calls Try.prog 55 #[.agg #[.int .i64 C.bits, .int .i64 C.rows, .int .i64 C.width, .int .i64 C.mode, .int .u64 C.seed], v, .agg #[.int .i64 0, .int .u64 j]] w
      fun e w' => e = .returned (.int .i64 (hasK C us 60 0 j)) ∧ Ext w w' := Has15_c us hus v C hok 0 (by decide) j hj w hv hul
@[go_sem] theorem fld_key (k d : Int) (w : World) : (Instr.field 38 (.agg #[.int .u64 k, .int .i64 d]) 0).run Try.prog w = .ok (.int .u64 k) w := by kernel_rfl
set_option maxRecDepth 20000 in
set_option maxHeartbeats 4000000 in
theorem Plain15_c (us : List (Int × Int)) (hus : UpsOk us) (v : Value) (C : Cfg) (hok : C.Ok) (w : World) (hv : UpsAt w v us) (hul : us.length ≤ 140737488355328) :
    Calls Try.prog 57 #[.agg #[.int .i64 C.bits, .int .i64 C.rows, .int .i64 C.width, .int .i64 C.mode, .int .u64 C.seed], v] w
      fun e w' => e = .returned (.bool (plK C us 60)) ∧ Ext w w' := by
  obtain ⟨vp, vc, rfl⟩ := hv.sl
  have HV := Lib.hid hv
  clear hv
  go_enter Try.func57, Try.ntmps57
  go_wp2_with fail
  go_loopw [5] (fun u5 wr => ∃ k : Nat, k ≤ 60 ∧ k ≤ us.length ∧ u5 = .int .i64 k ∧ plK C us k = true ∧ Ext w wr ∧ CfgAt wr w.heap.size C) (fun u5 _ => 60 - (intOf u5).toNat)
  case atStart =>
    exact ⟨0, Nat.zero_le _, Nat.zero_le _, rfl, plK_zero C us, by (repeat' (first | exact Ext.refl _ | assumption | apply Ext.allocR | apply Ext.drewR | apply Ext.drewNR | (refine Ext.trans' ?_ (by assumption)))), CfgAt.box C _ rfl⟩
  case round =>
    obtain ⟨k, hk60, hkl, rfl, hp, hE, hC⟩ := hrel
    have l1 := hC.lt
    by_cases hgo : k < us.length ∧ k < 60
    · obtain ⟨hg1, hg2⟩ := hgo
      have hvw := UpsAt.ext HV.out hE
      obtain ⟨ug, off, rfl, hul0, d0, d1⟩ := hvw.one hg1
      have hu := hus _ (List.getElem_mem hg1)
      have hps := plK_succ C us hg1
      have hend : ∀ b, plK C us (k + 1) = false → plK C us 60 = b → b = false := by
        intro b h1 h2
        rw [← h2]
        unfold plK at *
        rw [List.all_eq_false] at *
        obtain ⟨u, hu, hn⟩ := h1
        exact ⟨u, List.mem_of_mem_take (i := k + 1) (by rw [List.take_take, Nat.min_eq_left (by omega)]; exact hu), hn⟩
      rw [hp, Bool.true_and] at hps
      have c0 := hC.c0
      have c1 := hC.c1
      have c2 := hC.c2
      have c3 := hC.c3
      have c4 := hC.c4
      generalize us[k] = uu at *
      obtain ⟨uk, ud⟩ := uu
      have hkb := cutK_bd C hok 0 uk (Int.le_refl 0)
      have hkp := keys_bd C hok 0 (Int.le_refl 0)
      have hkU : U64 (cutK C 0 uk) := by unfold U64; omega
      obtain ⟨hsb1, hsb2⟩ := hasK_bd C us (Nat.le_refl 60) 0 (cutK C 0 uk)
      have hCut : ∀ W', Calls Try.prog 50 #[.agg #[.int .i64 C.bits, .int .i64 C.rows, .int .i64 C.width, .int .i64 C.mode, .int .u64 C.seed], .agg #[.int .u64 uk, .int .i64 ud]] W' fun e w' => e = .returned (.agg #[.int .u64 (cutK C 0 uk), .int .i64 (cutD C.mode ud)]) ∧ Ext W' w' := fun W' => Cut15_c C hok uk ud hu.1 hu.2 W'
      have hHas : ∀ W', Ext wr W' → Calls Try.prog 55 #[.agg #[.int .i64 C.bits, .int .i64 C.rows, .int .i64 C.width, .int .i64 C.mode, .int .u64 C.seed], .slice (some ⟨ug, off, none⟩) us.length vc, .agg #[.int .i64 0, .int .u64 (cutK C 0 uk)]] W' fun e w' => e = .returned (.int .i64 (hasK C us 60 0 (cutK C 0 uk))) ∧ Ext W' w' := fun W' h => Has15_zero us hus _ C hok _ hkU _ (hvw.ext h) hul
      generalize hasK C us 60 0 (cutK C 0 uk) = hh at *
      generalize cutK C 0 uk = kk at *
      generalize cutD C.mode ud = dd at *
      have HC := Lib.hid hC
      have HPS := Lib.hid hps
      have HEND := Lib.hid hend
      clear hC hps hend hp hvw hkb hkp
      by_cases hneg : hh < 0
      · have g1 : decide (hh < 0) = true := decide_eq_true hneg
        go_wp2_with fail
        refine wp_region_after (by kernel_rfl) (by kernel_rfl) ?_
        repeat (go_big_quiet_step ((first | (go_at_call 50; with_reducible exact quiet_after (hCut _)) | (go_at_call 55; with_reducible exact quiet_after (hHas _ (After.h _))))))
        refine wpQuiet_nil ?_
        rintro _ ⟨xx, rfl⟩
        obtain ⟨w7, hb7⟩ := xx
        try dsimp only
        go_wp2
        go_ret
        exact ⟨by rw [HEND.out _ (by rw [HPS.out]; exact decide_eq_false (by omega)) rfl]; rfl, hE.trans' (by (repeat' (first | exact Ext.refl _ | assumption | apply Ext.allocR | apply Ext.drewR | apply Ext.drewNR | (refine Ext.trans' ?_ (by assumption)))))⟩
      · have g1 : decide (hh < 0) = false := decide_eq_false hneg
        go_wp2_with fail
        refine wp_region_after (by kernel_rfl) (by kernel_rfl) ?_
        repeat (go_big_quiet_step ((first | (go_at_call 50; with_reducible exact quiet_after (hCut _)) | (go_at_call 55; with_reducible exact quiet_after (hHas _ (After.h _))))))
        refine wpQuiet_nil ?_
        rintro _ ⟨xx, rfl⟩
        obtain ⟨w7, hb7⟩ := xx
        try dsimp only
        go_wp2
        go_roundw
        case rel => exact ⟨k + 1, by omega, by omega, by go_num, by rw [HPS.out]; exact decide_eq_true (by omega), hE.trans' (by (repeat' (first | exact Ext.refl _ | assumption | apply Ext.allocR | apply Ext.drewR | apply Ext.drewNR | (refine Ext.trans' ?_ (by assumption))))), HC.out.ext (by (repeat' (first | exact Ext.refl _ | assumption | apply Ext.allocR | apply Ext.drewR | apply Ext.drewNR | (refine Ext.trans' ?_ (by assumption)))))⟩
        case measure => simp [intOf]; omega
    · have hfe := plK_end C us hk60 hkl hgo
      rw [hp] at hfe
      have HFE := Lib.hid hfe
      clear hfe hp
      by_cases hg1 : k < us.length
      · have hg2 : ¬ k < 60 := fun h => hgo ⟨hg1, h⟩
        go_wp2_with fail
        go_ret
        exact ⟨by rw [← HFE.out]; rfl, hE⟩
      · go_wp2_with fail
        go_ret
        exact ⟨by rw [← HFE.out]; rfl, hE⟩
end Go.Proofs.Ytpnbgoahjoabkaa

/- gaugerlaw15.StackOver, walked. -/
namespace Go.Proofs.Ytpnbgoahjoabkaa
set_option linter.unusedVariables false
open Go.RowKit
theorem and1i (x : Int) : bits BinOp.and IntKind.i64 x 1 = x % 2 := by
  show IntKind.i64.wrap ((BitVec.ofInt 64 x &&& BitVec.ofInt 64 1).toNat : Int) = _
  have e1 : (BitVec.ofInt 64 (1 : Int)).toNat = 2 ^ 1 - 1 := by decide
  rw [BitVec.toNat_and, e1, Nat.and_two_pow_sub_one_eq_mod, BitVec.toNat_ofInt, IntKind.wrap_i64]
  have : (x % ((2 ^ 64 : Nat) : Int)).toNat % 2 ^ 1 < 2 := Nat.mod_lt _ (by decide)
  omega
theorem kcfg_mode (x : Cfg) (nb : Int) {m : Int} (h : 0 < m) : (kcfg x nb m).mode = m := (kcfg_pos x nb h).2.2.2.2.symm
set_option maxRecDepth 20000 in
set_option maxHeartbeats 8000000 in
theorem OverL_c (x : Cfg) (hx : x.Raw) (lv : Int) (hlv : I64 lv) (key : Int) (hkey : U64 key) (us : List (Int × Int)) (hus : UpsOk us) (v : Value) (w : World) (hv : UpsAt w v us) (hul : us.length ≤ 140737488355328) :
    Calls Try.prog 7 #[.agg #[.int .i64 x.bits, .int .i64 x.rows, .int .i64 x.width, .int .i64 x.mode, .int .u64 x.seed, v], .int .i64 lv, .int .u64 key] w fun e w' => e = .returned (.bool true) ∧ Ext w w' := by
  obtain ⟨vp, vc, rfl⟩ := hv.sl
  have HV := Lib.hid hv
  clear hv
  have ha1 := and1i x.mode
  go_enter Try.func7, Try.ntmps7
  go_wp2_with fail
  refine (shownK_c _).mono ?_
  rintro e w1 ⟨rfl, hb1⟩
  have hE1 : Ext w w1 := by (repeat' (first | exact Ext.refl _ | assumption | apply Ext.allocR | apply Ext.drewR | apply Ext.drewNR | (refine Ext.trans' ?_ (by assumption))))
  have hP1 := hb1.keep (heap_at w (.cells #[.int .i64 x.bits, .int .i64 x.rows, .int .i64 x.width, .int .i64 x.mode, .int .u64 x.seed, .slice vp us.length vc] 64) rfl)
  have p0 := (cell_of hP1 0).trans rfl
  have p1 := (cell_of hP1 1).trans rfl
  have p2 := (cell_of hP1 2).trans rfl
  have p3 := (cell_of hP1 3).trans rfl
  have p4 := (cell_of hP1 4).trans rfl
  have p5 := (cell_of hP1 5).trans rfl
  have pl := lt_of hP1
  clear hb1
  obtain ⟨m, hm⟩ : ∃ m : Int, m = if x.mode % 2 = 1 then 2 else 1 := ⟨_, rfl⟩
  go_upto_if 19 with (fail)
  go_cut [8] (fun s8 wx => s8 = .int .i64 m ∧ wx = w1)
  case first =>
    by_cases hmm : x.mode % 2 = 1
    · rw [if_pos hmm] at hm
      subst hm
      go_wp2_with fail
      go_meet
      exact ⟨rfl, rfl⟩
    · rw [if_neg hmm] at hm
      subst hm
      go_wp2_with fail
      go_meet
      exact ⟨rfl, rfl⟩
  case rest =>
   obtain ⟨rfl, rfl⟩ := hcut
   have hm12 : m = 1 ∨ m = 2 := by rw [hm]; split <;> simp
   clear ha1 hm
   have hm0 : 0 < m := by omega
   have hm3 : m ≤ 3 := by omega
   go_wp2_with fail
   refine Calls.mono (fed15_c x hx 10 (by decide) (by decide) m (by omega) hm3 us hus _ 0 60 (by decide) (by decide) _ (HV.out.ext hE1) hul) ?_
   rintro e w2 ⟨s, g, L, rfl, hK, hs, hg, hF, hx2⟩
   have hok := kcfg_ok x hx.s (nb := 10) (m := m) (by decide) (by decide) hm3
   have hmd := kcfg_mode x 10 hm0
   generalize kcfg x 10 m = C at *
   have hmn : C.mode ≠ 3 := by omega
   have hb1 := hok.b1
   have hb2 := hok.b2
   obtain ⟨B, hB⟩ : ∃ B : Nat, C.bits = B := ⟨C.bits.toNat, by omega⟩
   have hBt : C.bits.toNat = B := by omega
   rw [hBt] at hK
   have hE2 : Ext w w2 := by (repeat' (first | exact Ext.refl _ | assumption | apply Ext.allocR | apply Ext.drewR | apply Ext.drewNR | (refine Ext.trans' ?_ (by assumption))))
   have hP2 := hx2.keep hP1
   have HB := Lib.hid hB
   have HU2 := Lib.hid (HV.out.ext hE2)
   clear p0 p1 p2 p3 p4 p5 pl hP1 hx2 hE1 hs hg hF hB hBt hmd hm12 hm0 hm3
   go_upto_region 8 with (fail)
   obtain ⟨w3, hw3⟩ : ∃ w3, w2.alloc (.cells #[.int .i64 C.bits, .int .i64 C.rows, .int .i64 C.width, .int .i64 C.mode, .int .u64 C.seed] 24) = w3 := ⟨_, rfl⟩
   have hx3 : Ext w2 w3 := by rw [← hw3]; exact Ext.alloc' _ _
   have hC3 : CfgAt w3 w2.heap.size C := by rw [← hw3]; exact CfgAt.box C _ rfl
   rw [hw3]
   clear hw3
   have hE3 := hE2.trans' hx3
   have hP3 := hx3.keep hP2
   have hK3 := hK.ext hx3
   have HU3 := Lib.hid (HU2.out.ext hx3)
   have c0 := hC3.c0
   have c1 := hC3.c1
   have c2 := hC3.c2
   have c3 := hC3.c3
   have c4 := hC3.c4
   have cl := hC3.lt
   have p5 := (cell_of hP3 5).trans rfl
   have pl := lt_of hP3
   clear hK hP2 hE2 hx3 HU2
   go_wp2_with fail
   refine (Plain15_c us hus _ C hok _ HU3.out hul).mono ?_
   rintro e wq ⟨rfl, hxq⟩
   have hEq := hE3.trans' hxq
   cases hpl : plK C us 60 with
   | false =>
     clear hpl
     go_wp2_with fail
     go_ret
     exact ⟨rfl, hEq⟩
   | true =>
    have hPq := hxq.keep hP3
    have hKq := hK3.ext hxq
    have hCq := hC3.ext hxq
    have HUq := Lib.hid (HU3.out.ext hxq)
    clear c0 c1 c2 c3 c4 cl p5 pl hC3 hK3 hP3 hE3 HU3 hxq
    have c0 := hCq.c0
    have c1 := hCq.c1
    have c2 := hCq.c2
    have c3 := hCq.c3
    have c4 := hCq.c4
    have cl := hCq.lt
    have k0 := Int.emod_nonneg (lv % 65536) (show (B : Int) + 1 ≠ 0 by omega)
    have k1 := Int.emod_lt_of_pos (lv % 65536) (show 0 < (B : Int) + 1 by omega)
    obtain ⟨n, hn⟩ : ∃ n : Nat, lv % 65536 % ((B : Int) + 1) = n := ⟨_, (Int.toNat_of_nonneg k0).symm⟩
    have hnB : n ≤ B := by omega
    have HN := Lib.hid hn
    have HPL := Lib.hid hpl
    clear hn k0 k1 hpl
    have hla := and16 lv
    have hkp := keys_bd C hok 0 (Int.le_refl 0)
    have hkm0 := Int.emod_nonneg key (show keys C 0 ≠ 0 by omega)
    have hkm1 := Int.emod_lt_of_pos key (show 0 < keys C 0 by omega)
    have hkz : (keys C 0 == 0) = false := by simp; omega
    go_upto_region 10 with (fail)
    go_cut [1] (fun s1 wx => s1 = .int .i64 n ∧ wx = wq)
    case first =>
      go_wp2
      go_meet
      exact ⟨by rw [HB.out, HN.out], rfl⟩
    case rest =>
      obtain ⟨rfl, rfl⟩ := hcut
      go_wp2_with fail
      refine (KeysR_c C hok 0 (Int.le_refl 0) (by omega) _).mono ?_
      rintro e w4 ⟨rfl, hx4⟩
      have hE4 := hEq.trans' hx4
      have hP4 := hx4.keep hPq
      have hK4 := hKq.ext hx4
      have hC4 := hCq.ext hx4
      have HU4 := Lib.hid (HUq.out.ext hx4)
      have p5 := (cell_of hP4 5).trans rfl
      have pl := lt_of hP4
      clear c0 c1 c2 c3 c4 cl hCq hKq hPq hEq HUq hla
      have c0 := hC4.c0
      have c1 := hC4.c1
      have c2 := hC4.c2
      have c3 := hC4.c3
      have c4 := hC4.c4
      have cl := hC4.lt
      have hnn : n ≤ 59 := by have := HB.out; omega
      have hnb : (n : Int) ≤ C.bits := by have := HB.out; omega
      have hm0 : 0 ≤ key.tmod (keys C 0) := Int.tmod_nonneg _ hkey.1
      have hm1 : key.tmod (keys C 0) < keys C 0 := Int.tmod_lt_of_pos _ (by omega)
      have hj0 : 0 ≤ key.tmod (keys C 0) / 2 ^ n := sh_nn hm0 n
      have hj1 : key.tmod (keys C 0) / 2 ^ n < keys C n := sh_lt hok hnb hm0 hm1
      have hkn := keys_bd C hok n (Int.natCast_nonneg n)
      clear hkm0 hkm1 hm0 hm1
      by_cases hl0 : 0 < us.length
      all_goals
        go_upto_if 57 with (fail)
        generalize key.tmod (keys C 0) / 2 ^ n = jx at *
        obtain ⟨w5, hw5⟩ : ∃ w5, w4.alloc (.cells #[.int .i64 n, .int .u64 jx] 77) = w5 := ⟨_, rfl⟩
        have hx5 : Ext w4 w5 := by rw [← hw5]; exact Ext.alloc' _ _
        have hPc : w5.heap[w4.heap.size]? = some (.cells #[.int .i64 n, .int .u64 jx] 77 (0, 0)) := by rw [← hw5]; exact heap_at _ _ rfl
        rw [hw5]
        clear hw5
        have pcl := lt_of hPc
        go_cut [] (fun wx => ∃ j2 : Int, 0 ≤ j2 ∧ j2 < keys C n ∧ wx.heap[w4.heap.size]? = some (.cells #[.int .i64 n, .int .u64 j2] 77 (0, 0)) ∧ Ext w4 wx)
        case first =>
          have hP5 := hx5.keep hP4
          have hU5 := HU4.out.ext hx5
          have hC5 := hC4.ext hx5
          clear c0 c1 c2 c3 c4 cl p5 pl hP4 HU4 hC4 hK4
          have c0 := hC5.c0
          have c1 := hC5.c1
          have c2 := hC5.c2
          have c3 := hC5.c3
          have c4 := hC5.c4
          have cl := hC5.lt
          have p5 := (cell_of hP5 5).trans rfl
          have pl := lt_of hP5
          by_cases hl : 0 < us.length ∧ key % 2 = 0
          · obtain ⟨hl1, hl2⟩ := hl
            first
            | exact absurd hl1 hl0
            | (
                have g2 : (key.tmod 2 == 0) = true := by rw [Int.tmod_eq_emod_of_nonneg hkey.1]; simpa using hl2
                obtain ⟨ug, off, rfl, hul0, d0, d1⟩ := hU5.one hl1
                have hu := hus _ (List.getElem_mem hl1)
                generalize us[0] = uu at *
                obtain ⟨uk, ud⟩ := uu
                have hkb := cutK_bd C hok 0 uk (Int.le_refl 0)
                have q0 := sh_nn hkb.1 n
                have q1 := sh_lt hok hnb hkb.1 hkb.2
                have hCut : ∀ W', Calls Try.prog 50 #[.agg #[.int .i64 C.bits, .int .i64 C.rows, .int .i64 C.width, .int .i64 C.mode, .int .u64 C.seed], .agg #[.int .u64 uk, .int .i64 ud]] W' fun e w' => e = .returned (.agg #[.int .u64 (cutK C 0 uk), .int .i64 (cutD C.mode ud)]) ∧ Ext W' w' := fun W' => Cut15_c C hok uk ud hu.1 hu.2 W'
                unfold sh at q0 q1
                generalize cutK C 0 uk = kk at *
                generalize cutD C.mode ud = dd at *
                have f1 := frozen_of hPc 1
                have e1 := (cell_of hPc 1).trans rfl
                simp only [Nat.zero_mul, Nat.add_zero] at d0 d1
                try rw [g2]
                go_wp2_with fail
                refine wp_region_after_tail 11 (by kernel_rfl) (by kernel_rfl) ?_
                simp only [List.take_succ_cons, List.take_zero, List.drop_succ_cons, List.drop_zero]
                repeat (go_big_quiet_step ((go_at_call 50; with_reducible exact quiet_after (hCut _))))
                refine wpQuiet_nil ?_
                rintro _ ⟨xx, rfl⟩
                obtain ⟨w6, hb6⟩ := xx
                try dsimp only
                have e6 := hb6.keep hPc
                have f6 := frozen_of e6 1
                have e1' := (cell_of e6 1).trans rfl
                have l6 := lt_of e6
                go_wp2
                go_meet
                refine ⟨kk / 2 ^ n, q0, q1, by rw [setCell_same e6]; rfl, (hx5.trans' (by (repeat' (first | exact Ext.refl _ | assumption | apply Ext.allocR | apply Ext.drewR | apply Ext.drewNR | (refine Ext.trans' ?_ (by assumption)))))).setR (p := ⟨w4.heap.size, 1, none⟩) (Nat.le_refl _) _⟩)
          · by_cases hkk : key % 2 = 0
            · have hl3 : ¬ 0 < us.length := fun h => hl ⟨h, hkk⟩
              go_wp2_with fail
              all_goals
                go_meet
                exact ⟨jx, hj0, hj1, hPc, hx5⟩
            · have g2 : (key.tmod 2 == 0) = false := by rw [Int.tmod_eq_emod_of_nonneg hkey.1]; simpa using hkk
              try rw [g2]
              go_wp2_with fail
              all_goals
                go_meet
                exact ⟨jx, hj0, hj1, hPc, hx5⟩
        case rest =>
          obtain ⟨j2, hj20, hj21, hPc', hxc⟩ := hcut
          have hjU : U64 j2 := by unfold U64; omega
          have q0 := (cell_of hPc' 0).trans rfl
          have q1 := (cell_of hPc' 1).trans rfl
          have ql := lt_of hPc'
          clear hx5 hPc pcl c0 c1 c2 c3 c4 cl p5 pl hj0 hj1
          go_wp2_with fail
          refine Calls.mono (KPoint_c s g C B L _ _ (hK4.ext hxc) n hnB j2 hj20 hj21) ?_
          rintro e w6 ⟨z, rfl, hpt, hx6⟩
          have hx46 := hxc.trans' hx6
          have hE6 := hE4.trans' hx46
          have hU6 := HU4.out.ext hx46
          have hC6 := hC4.ext hx46
          have hP6 := hx46.keep hP4
          have hPc6 := hx6.keep hPc'
          clear q0 q1 ql hPc' hP4 hC4 hK4 HU4 hx6 hxc
          have c0 := hC6.c0
          have c1 := hC6.c1
          have c2 := hC6.c2
          have c3 := hC6.c3
          have c4 := hC6.c4
          have cl := hC6.lt
          have p5 := (cell_of hP6 5).trans rfl
          have pl := lt_of hP6
          have q0 := (cell_of hPc6 0).trans rfl
          have q1 := (cell_of hPc6 1).trans rfl
          have ql := lt_of hPc6
          have hov := over_law hok hnb hus hmn HPL.out hj20 hpt
          have hdv : decide (hasK C us 60 n j2 ≤ z) = true := decide_eq_true hov
          have hH := fun W' (h : Ext w6 W') => Has15_c us hus _ C hok n (by omega) j2 hjU _ (hU6.ext h) hul
          have HH := Lib.hid hH
          clear hpt hH hU6 hPc6 hP6 hC6 hx46 hx4
          generalize hasK C us 60 n j2 = hh at *
          go_wp2_with fail
          refine (HH.out _ (Ext.refl _)).mono ?_
          rintro e w7 ⟨rfl, hx7⟩
          go_wp2
          go_ret
          exact ⟨rfl, hE6.trans' hx7⟩
end Go.Proofs.Ytpnbgoahjoabkaa

/- gaugerlaw16.SpanOver, walked. -/
namespace Go.Proofs.Ytpnbgoahjoabkaa
set_option linter.unusedVariables false
open Go.RowKit
theorem keys0_pow {C : Cfg} {B : Nat} (hB : C.bits = B) : keys C 0 = 2 ^ B := by unfold keys; rw [hB]; congr 1
set_option maxRecDepth 20000 in
set_option maxHeartbeats 8000000 in
theorem SOverL_c (x : Cfg) (hx : x.Raw) (ka : Int) (hka : U64 ka) (kb : Int) (hkb : U64 kb) (us : List (Int × Int)) (hus : UpsOk us) (v : Value) (w : World) (hv : UpsAt w v us) (hul : us.length ≤ 140737488355328) :
    Calls Try.prog 13 #[.agg #[.int .i64 x.bits, .int .i64 x.rows, .int .i64 x.width, .int .i64 x.mode, .int .u64 x.seed, v], .int .u64 ka, .int .u64 kb] w fun e w' => e = .returned (.bool true) ∧ Ext w w' := by
  obtain ⟨vp, vc, rfl⟩ := hv.sl
  have HV := Lib.hid hv
  clear hv
  have ha1 := and1i x.mode
  go_enter Try.func13, Try.ntmps13
  go_wp2_with fail
  refine (shown16_c _).mono ?_
  rintro e w1 ⟨rfl, hb1⟩
  have hE1 : Ext w w1 := by (repeat' (first | exact Ext.refl _ | assumption | apply Ext.allocR | apply Ext.drewR | apply Ext.drewNR | (refine Ext.trans' ?_ (by assumption))))
  have hP1 := hb1.keep (heap_at w (.cells #[.int .i64 x.bits, .int .i64 x.rows, .int .i64 x.width, .int .i64 x.mode, .int .u64 x.seed, .slice vp us.length vc] 97) rfl)
  have p0 := (cell_of hP1 0).trans rfl
  have p1 := (cell_of hP1 1).trans rfl
  have p2 := (cell_of hP1 2).trans rfl
  have p3 := (cell_of hP1 3).trans rfl
  have p4 := (cell_of hP1 4).trans rfl
  have p5 := (cell_of hP1 5).trans rfl
  have pl := lt_of hP1
  clear hb1
  obtain ⟨m, hm⟩ : ∃ m : Int, m = if x.mode % 2 = 1 then 2 else 1 := ⟨_, rfl⟩
  go_upto_if 22 with (fail)
  go_cut [8] (fun s8 wx => s8 = .int .i64 m ∧ wx = w1)
  case first =>
    by_cases hmm : x.mode % 2 = 1
    · rw [if_pos hmm] at hm
      subst hm
      go_wp2_with fail
      go_meet
      exact ⟨rfl, rfl⟩
    · rw [if_neg hmm] at hm
      subst hm
      go_wp2_with fail
      go_meet
      exact ⟨rfl, rfl⟩
  case rest =>
   obtain ⟨rfl, rfl⟩ := hcut
   have hm12 : m = 1 ∨ m = 2 := by rw [hm]; split <;> simp
   clear ha1 hm
   have hm0 : 0 < m := by omega
   have hm3 : m ≤ 3 := by omega
   go_wp2_with fail
   refine Calls.mono (fed16_c x hx 10 (by decide) (by decide) m (by omega) hm3 ka kb hka hkb us hus _ _ (HV.out.ext hE1) hul) ?_
   rintro e w2 ⟨s, g, L, rfl, hK, hs, hg, hF, hx2⟩
   have hok := kcfg_ok x hx.s (nb := 10) (m := m) (by decide) (by decide) hm3
   have hmd := kcfg_mode x 10 hm0
   generalize kcfg x 10 m = C at *
   have hmn : C.mode ≠ 3 := by omega
   have hb1 := hok.b1
   have hb2 := hok.b2
   obtain ⟨B, hB⟩ : ∃ B : Nat, C.bits = B := ⟨C.bits.toNat, by omega⟩
   have hBt : C.bits.toNat = B := by omega
   have hBd : B ≤ 59 := by omega
   rw [hBt] at hK
   have hE2 : Ext w w2 := by (repeat' (first | exact Ext.refl _ | assumption | apply Ext.allocR | apply Ext.drewR | apply Ext.drewNR | (refine Ext.trans' ?_ (by assumption))))
   have hP2 := hx2.keep hP1
   have hkp := keys0_pow hB
   have hpw := pow_bd B hBd
   have hmod1 := Int.emod_lt_of_pos ka (b := keys C 0) (by omega)
   have hmod2 := Int.emod_lt_of_pos kb (b := keys C 0) (by omega)
   have hmod3 := Int.emod_nonneg ka (b := keys C 0) (by omega)
   have hmod4 := Int.emod_nonneg kb (b := keys C 0) (by omega)
   generalize ka % keys C 0 = A at *
   generalize kb % keys C 0 = D at *
   obtain ⟨lo, hlo⟩ : ∃ lo, min A D = lo := ⟨_, rfl⟩
   obtain ⟨hi, hhi⟩ : ∃ hi, max A D = hi := ⟨_, rfl⟩
   have h0 : 0 ≤ lo := by omega
   have h1 : lo ≤ hi := by omega
   have h2 : hi < 2 ^ B := by omega
   have hhi64 : U64 hi := by unfold U64; omega
   have hlo64 : U64 lo := by unfold U64; omega
   rw [hlo, hhi]
   have hI1 := cv_I64 (C := C) hBd us lo hi
   have hI2 := cv_I64 (C := C) hBd us 0 hi
   have hge := fun hp => And.intro (cv_ge hok hB hus hmn hp h0 h1 h2) (cv_ge hok hB hus hmn hp (Int.le_refl 0) (by omega) h2)
   have hR : ∀ W', Ext w2 W' → Calls Try.prog 73 #[.pointer (some ⟨s, 0, none⟩), .int .u64 lo, .int .u64 hi] W' (fun e w' => e = .returned (.tuple #[.int .i64 (lsum (cvV (ptK C B us) B lo hi)), .int .i64 0]) ∧ Ext W' w') := fun W' h => (Range_c s g C B L _ W' (hK.ext h) _ (uniq_fed C B us) (ptK_I64 C B us) lo hi hlo64 hhi64).mono fun e w' h => range_ok h h1 h2 hI1
   have hR2 : ∀ W', Ext w2 W' → Calls Try.prog 74 #[.pointer (some ⟨s, 0, none⟩), .int .u64 hi] W' (fun e w' => e = .returned (.tuple #[.int .i64 (lsum (cvV (ptK C B us) B 0 hi)), .int .i64 0]) ∧ Ext W' w') := fun W' h => (Rank_c s g C B L _ W' (hK.ext h) _ (uniq_fed C B us) (ptK_I64 C B us) hi hhi64).mono fun e w' h => range_ok h (by omega) h2 hI2
   have hbt1 := betK_bd C us (Nat.le_refl 60) lo hi
   have hbt2 := betK_bd C us (Nat.le_refl 60) 0 hi
   have HH := Lib.hid (And.intro h1 h2)
   have HU2 := Lib.hid (HV.out.ext hE2)
   generalize lsum (cvV (ptK C B us) B lo hi) = T1 at *
   generalize lsum (cvV (ptK C B us) B 0 hi) = T2 at *
   have HR := Lib.hid hR
   have HR2 := Lib.hid hR2
   have HGE := Lib.hid hge
   clear p0 p1 p2 p3 p4 p5 pl hP1 hx2 hE1 hs hg hF hB hBt hmd hm12 hm0 hm3 hK hkp hmod1 hmod2 hmod3 hmod4 hlo hhi hR hR2 hI1 hI2 hge
   go_upto_region 8 with (fail)
   obtain ⟨w3, hw3⟩ : ∃ w3, w2.alloc (.cells #[.int .i64 C.bits, .int .i64 C.rows, .int .i64 C.width, .int .i64 C.mode, .int .u64 C.seed] 24) = w3 := ⟨_, rfl⟩
   have hx3 : Ext w2 w3 := by rw [← hw3]; exact Ext.alloc' _ _
   have hC3 : CfgAt w3 w2.heap.size C := by rw [← hw3]; exact CfgAt.box C _ rfl
   rw [hw3]
   clear hw3
   have hP3 := hx3.keep hP2
   have HC3 := Lib.hid hC3
   have HP3 := Lib.hid hP3
   clear hP2 hC3 hP3
   go_wp2_with fail
   refine (HR.out _ hx3).mono ?_
   rintro e w4 ⟨rfl, hx4⟩
   have hE4 : Ext w3 w4 := hx4
   clear hx4 HR
   go_wp2_with fail
   refine (HR2.out _ (hx3.trans' hE4)).mono ?_
   rintro e w5 ⟨rfl, hx5⟩
   have hE5 : Ext w3 w5 := hE4.trans' hx5
   clear hx5 hE4 HR2
   have hC5 := HC3.out.ext hE5
   have hP5 := hE5.keep HP3.out
   have c0 := hC5.c0
   have c1 := hC5.c1
   have c2 := hC5.c2
   have c3 := hC5.c3
   have c4 := hC5.c4
   have cl := hC5.lt
   have p5 := (cell_of hP5 5).trans rfl
   have pl := lt_of hP5
   clear hC5 hP5
   go_wp2_with fail
   refine (Plain15_c us hus _ C hok _ (HU2.out.ext (hx3.trans' hE5)) hul).mono ?_
   rintro e w6 ⟨rfl, hx6⟩
   have hE6 : Ext w3 w6 := hE5.trans' hx6
   clear hx6 hE5 c0 c1 c2 c3 c4 cl p5 pl
   cases hpl : plK C us 60 with
   | false =>
     clear hpl HGE
     go_wp2
     go_ret
     exact ⟨rfl, (hE2.trans' hx3).trans' hE6⟩
   | true =>
     obtain ⟨g1, g2⟩ := HGE.out hpl
     clear hpl HGE
     have hB1 := fun W' (h : Ext w3 W') => Between16_c us hus (.slice vp us.length vc) C hok lo hi hlo64 hhi64 W' (HU2.out.ext (hx3.trans' h)) hul
     have hB2 := fun W' (h : Ext w3 W') => Between16_c us hus (.slice vp us.length vc) C hok 0 hi ⟨by decide, by decide⟩ hhi64 W' (HU2.out.ext (hx3.trans' h)) hul
     generalize betK C us 60 lo hi = b1 at *
     generalize betK C us 60 0 hi = b2 at *
     have HB1 := Lib.hid hB1
     have HB2 := Lib.hid hB2
     clear hB1 hB2
     have hC6 := HC3.out.ext hE6
     have hP6 := hE6.keep HP3.out
     have c0 := hC6.c0
     have c1 := hC6.c1
     have c2 := hC6.c2
     have c3 := hC6.c3
     have c4 := hC6.c4
     have cl := hC6.lt
     have p5 := (cell_of hP6 5).trans rfl
     have pl := lt_of hP6
     clear hC6 hP6
     go_wp2_with fail
     refine (HB1.out _ hE6).mono ?_
     rintro e w7 ⟨rfl, hx7⟩
     have hE7 : Ext w3 w7 := hE6.trans' hx7
     clear hx7 hE6 c0 c1 c2 c3 c4 cl p5 pl
     have hC7 := HC3.out.ext hE7
     have hP7 := hE7.keep HP3.out
     have c0 := hC7.c0
     have c1 := hC7.c1
     have c2 := hC7.c2
     have c3 := hC7.c3
     have c4 := hC7.c4
     have cl := hC7.lt
     have p5 := (cell_of hP7 5).trans rfl
     have pl := lt_of hP7
     clear hC7 hP7
     go_wp2_with fail
     refine (HB2.out _ hE7).mono ?_
     rintro e w8 ⟨rfl, hx8⟩
     go_wp2
     go_ret
     exact ⟨rfl, (hE2.trans' hx3).trans' (hE7.trans' hx8)⟩
end Go.Proofs.Ytpnbgoahjoabkaa
