/- gaugerlaw17.QuantRises, walked. -/
import Derived.Test.YtpnbgoahjoabkaaAQuantWay7
import Derived.ProofKit
import Derived.OpenShut
import Derived.ChangeOld
import Derived.Below
import Derived.SizedLaws
import Derived.Deep.Slices
import Derived.Deep.Fields

/- gaugerlaw17.QuantRises, walked. -/
namespace Go.Proofs.Ytpnbgoahjoabkaa
set_option linter.unusedVariables false
open Go.RowKit
theorem and62i (x : Int) : bits BinOp.and IntKind.i64 x 4611686018427387903 = x % 4611686018427387904 := by
  show IntKind.i64.wrap ((BitVec.ofInt 64 x &&& BitVec.ofInt 64 4611686018427387903).toNat : Int) = _
  have e1 : (BitVec.ofInt 64 (4611686018427387903 : Int)).toNat = 2 ^ 62 - 1 := by decide
  rw [BitVec.toNat_and, e1, Nat.and_two_pow_sub_one_eq_mod, BitVec.toNat_ofInt, IntKind.wrap_i64]
  have : (x % ((2 ^ 64 : Nat) : Int)).toNat % 2 ^ 62 < 4611686018427387904 := Nat.mod_lt _ (by decide)
  omega
theorem rank_bd {x T : Int} (hT : 1 ≤ T) : 0 ≤ x % 4611686018427387904 % T ∧ x % 4611686018427387904 % T < T :=
  ⟨Int.emod_nonneg _ (by omega), Int.emod_lt_of_pos _ (by omega)⟩
theorem tot_bd (C : Cfg) (B : Nat) (us : List (Int × Int)) : -65970697666560 ≤ (feedK C (fus us 0 60) B).getD 0 0 ∧ (feedK C (fus us 0 60) B).getD 0 0 ≤ 65970697666560 := (fed_bnd C us B).getD (by decide) 0
set_option maxRecDepth 20000 in
set_option maxHeartbeats 8000000 in
theorem RisesL_c (x : Cfg) (hx : x.Raw) (ka : Int) (hka : I64 ka) (kb : Int) (hkb : I64 kb) (us : List (Int × Int)) (hus : UpsOk us) (v : Value) (w : World) (hv : UpsAt w v us) (hul : us.length ≤ 140737488355328) :
    Calls Try.prog 16 #[.agg #[.int .i64 x.bits, .int .i64 x.rows, .int .i64 x.width, .int .i64 x.mode, .int .u64 x.seed, v], .int .i64 ka, .int .i64 kb] w fun e w' => e = .returned (.bool true) ∧ Ext w w' := by
  obtain ⟨vp, vc, rfl⟩ := hv.sl
  have HV := Lib.hid hv
  clear hv
  go_enter Try.func16, Try.ntmps16
  go_wp2_with fail
  refine (shown17_c _).mono ?_
  rintro e w1 ⟨rfl, hb1⟩
  have hE1 : Ext w w1 := by (repeat' (first | exact Ext.refl _ | assumption | apply Ext.allocR | apply Ext.drewR | apply Ext.drewNR | (refine Ext.trans' ?_ (by assumption))))
  have hP1 := hb1.keep (heap_at w (.cells #[.int .i64 x.bits, .int .i64 x.rows, .int .i64 x.width, .int .i64 x.mode, .int .u64 x.seed, .slice vp us.length vc] 109) rfl)
  have p0 := (cell_of hP1 0).trans rfl
  have p1 := (cell_of hP1 1).trans rfl
  have p2 := (cell_of hP1 2).trans rfl
  have p3 := (cell_of hP1 3).trans rfl
  have p4 := (cell_of hP1 4).trans rfl
  have p5 := (cell_of hP1 5).trans rfl
  have pl := lt_of hP1
  clear hb1
  go_wp2_with fail
  refine Calls.mono (fed17_c x hx 10 (by decide) (by decide) 0 (by decide) (by decide) us hus _ _ (HV.out.ext hE1) hul) ?_
  rintro e w2 ⟨s, g, L, rfl, hK, hs, hg, hF, hx2⟩
  have hok := kcfg_ok x hx.s (nb := 10) (m := 0) (by decide) (by decide) (by decide)
  generalize kcfg x 10 0 = C at *
  have hb1 := hok.b1
  obtain ⟨B, hB⟩ : ∃ B : Nat, C.bits = B := ⟨C.bits.toNat, by omega⟩
  have hBt : C.bits.toNat = B := by omega
  rw [hBt] at hK
  have hE2 : Ext w w2 := by (repeat' (first | exact Ext.refl _ | assumption | apply Ext.allocR | apply Ext.drewR | apply Ext.drewNR | (refine Ext.trans' ?_ (by assumption))))
  clear p0 p1 p2 p3 p4 p5 pl hP1 hx2 hE1 hs hg hF hBt
  have hT : Tells C B (feedK C (fus us 0 60)) (ptK C B us) := tells_fed C B us
  obtain ⟨tb1, tb2⟩ := tot_bd C B us
  have hQ := fun W' k (h : Ext w2 W') hk => Quantile_c s g C B L _ W' (hK.ext h) k hk _ hT
  have hTo := fun W' (h : Ext w2 W') => KTotal_c s g C B L _ W' (hK.ext h)
  generalize (feedK C (fus us 0 60) B).getD 0 0 = T at *
  have HQ := Lib.hid hQ
  clear hQ hT hK
  go_wp2_with fail
  refine (hTo _ (by (repeat' (first | exact Ext.refl _ | assumption | apply Ext.allocR | apply Ext.drewR | apply Ext.drewNR | (refine Ext.trans' ?_ (by assumption)))))).mono ?_
  rintro e w3 ⟨rfl, hx3⟩
  have hE3 : Ext w2 w3 := by (repeat' (first | exact Ext.refl _ | assumption | apply Ext.allocR | apply Ext.drewR | apply Ext.drewNR | (refine Ext.trans' ?_ (by assumption))))
  clear hx3 hTo
  go_wp2_with fail
  refine (HQ.out _ 0 (hE3.trans' (by (repeat' (first | exact Ext.refl _ | assumption | apply Ext.allocR | apply Ext.drewR | apply Ext.drewNR | (refine Ext.trans' ?_ (by assumption)))))) (by unfold I64; omega)).mono ?_
  rintro e w4 hp
  obtain ⟨_, rfl, hx4⟩ := hp.resolve_right (fun h => by have := h.1; omega)
  have hE4 : Ext w2 w4 := hE3.trans' (by (repeat' (first | exact Ext.refl _ | assumption | apply Ext.allocR | apply Ext.drewR | apply Ext.drewNR | (refine Ext.trans' ?_ (by assumption)))))
  clear hx4 hp hE3
  by_cases hneg : T < 0
  · go_wp2_with fail
    refine (HQ.out _ _ (hE4.trans' (by (repeat' (first | exact Ext.refl _ | assumption | apply Ext.allocR | apply Ext.drewR | apply Ext.drewNR | (refine Ext.trans' ?_ (by assumption)))))) (by unfold I64; omega)).mono ?_
    rintro e w5 hp
    obtain ⟨_, rfl, hx5⟩ := hp.resolve_right (fun h => by have := h.1; omega)
    have hE5 : Ext w2 w5 := hE4.trans' (by (repeat' (first | exact Ext.refl _ | assumption | apply Ext.allocR | apply Ext.drewR | apply Ext.drewNR | (refine Ext.trans' ?_ (by assumption)))))
    clear hx5 hp hE4
    go_wp2
    go_ret
    exact ⟨rfl, hE2.trans' hE5⟩
  by_cases hz : T < 1
  · go_wp2_with fail
    refine (HQ.out _ _ (hE4.trans' (by (repeat' (first | exact Ext.refl _ | assumption | apply Ext.allocR | apply Ext.drewR | apply Ext.drewNR | (refine Ext.trans' ?_ (by assumption)))))) (by unfold I64; omega)).mono ?_
    rintro e w5 hp
    obtain ⟨_, rfl, hx5⟩ := hp.resolve_right (fun h => by have := h.1; omega)
    have hE5 : Ext w2 w5 := hE4.trans' (by (repeat' (first | exact Ext.refl _ | assumption | apply Ext.allocR | apply Ext.drewR | apply Ext.drewNR | (refine Ext.trans' ?_ (by assumption)))))
    clear hx5 hp hE4
    go_wp2
    go_ret
    exact ⟨rfl, hE2.trans' hE5⟩
  go_wp2_with fail
  refine (HQ.out _ _ (hE4.trans' (by (repeat' (first | exact Ext.refl _ | assumption | apply Ext.allocR | apply Ext.drewR | apply Ext.drewNR | (refine Ext.trans' ?_ (by assumption)))))) (by unfold I64; omega)).mono ?_
  rintro e w5 hp
  obtain ⟨_, rfl, hx5⟩ := hp.resolve_right (fun h => by have := h.1; omega)
  have hE5 : Ext w2 w5 := hE4.trans' (by (repeat' (first | exact Ext.refl _ | assumption | apply Ext.allocR | apply Ext.drewR | apply Ext.drewNR | (refine Ext.trans' ?_ (by assumption)))))
  clear hx5 hp hE4
  have a1 := and62i ka
  have a2 := and62i kb
  obtain ⟨r1, r2⟩ := rank_bd (x := ka) (T := T) (by omega)
  obtain ⟨r3, r4⟩ := rank_bd (x := kb) (T := T) (by omega)
  have hzT : (T == 0) = false := by simp; omega
  go_upto_region 12 with (fail)
  obtain ⟨A, hA⟩ : ∃ A, 1 + ka % 4611686018427387904 % T = A := ⟨_, rfl⟩
  obtain ⟨D, hD⟩ : ∃ D, 1 + kb % 4611686018427387904 % T = D := ⟨_, rfl⟩
  have HA := Lib.hid hA
  have HD := Lib.hid hD
  go_cut [1] (fun s1 wx => s1 = .int .i64 A ∧ w5 = wx)
  case first =>
    clear hA hD
    go_wp2
    go_meet
    exact ⟨by rw [HA.out], rfl⟩
  case rest =>
   obtain ⟨rfl, rfl⟩ := hcut
   go_upto_region 13 with (fail)
   go_cut [2] (fun s2 wx => s2 = .int .i64 D ∧ w5 = wx)
   case first =>
     clear hA hD
     go_wp2
     go_meet
     exact ⟨by rw [HD.out], rfl⟩
   case rest =>
    obtain ⟨rfl, rfl⟩ := hcut
    have hA1 : 1 ≤ A := by omega
    have hA2 : A ≤ T := by omega
    have hD1 : 1 ≤ D := by omega
    have hD2 : D ≤ T := by omega
    clear a1 a2 r1 r2 r3 r4 hzT hA hD HA HD
    rcases Int.lt_trichotomy A D with hlt | rfl | hlt
    · have hm := wayI_mono (ptK C B us) B 0 A D (by omega)
      have HM := Lib.hid hm
      clear hm
      go_wp2_with fail
      refine (HQ.out _ _ (hE5.trans' (by (repeat' (first | exact Ext.refl _ | assumption | apply Ext.allocR | apply Ext.drewR | apply Ext.drewNR | (refine Ext.trans' ?_ (by assumption)))))) (by unfold I64; omega)).mono ?_
      rintro e w6 hp
      obtain ⟨_, rfl, hx6⟩ := hp.resolve_left (fun h => by have := h.1; omega)
      have hE6 : Ext w2 w6 := hE5.trans' (by (repeat' (first | exact Ext.refl _ | assumption | apply Ext.allocR | apply Ext.drewR | apply Ext.drewNR | (refine Ext.trans' ?_ (by assumption)))))
      clear hx6 hp hE5
      go_wp2_with fail
      refine (HQ.out _ _ (hE6.trans' (by (repeat' (first | exact Ext.refl _ | assumption | apply Ext.allocR | apply Ext.drewR | apply Ext.drewNR | (refine Ext.trans' ?_ (by assumption)))))) (by unfold I64; omega)).mono ?_
      rintro e w7 hp
      obtain ⟨_, rfl, hx7⟩ := hp.resolve_left (fun h => by have := h.1; omega)
      have hE7 : Ext w2 w7 := hE6.trans' (by (repeat' (first | exact Ext.refl _ | assumption | apply Ext.allocR | apply Ext.drewR | apply Ext.drewNR | (refine Ext.trans' ?_ (by assumption)))))
      clear hx7 hp hE6
      have hml := HM.out
      generalize wayI (ptK C B us) B 0 A = i1 at *
      generalize wayI (ptK C B us) B 0 D = i2 at *
      go_wp2
      go_ret
      exact ⟨rfl, hE2.trans' hE7⟩
    · have hm := wayI_mono (ptK C B us) B 0 A A (by omega)
      have HM := Lib.hid hm
      clear hm
      go_wp2_with fail
      refine (HQ.out _ _ (hE5.trans' (by (repeat' (first | exact Ext.refl _ | assumption | apply Ext.allocR | apply Ext.drewR | apply Ext.drewNR | (refine Ext.trans' ?_ (by assumption)))))) (by unfold I64; omega)).mono ?_
      rintro e w6 hp
      obtain ⟨_, rfl, hx6⟩ := hp.resolve_left (fun h => by have := h.1; omega)
      have hE6 : Ext w2 w6 := hE5.trans' (by (repeat' (first | exact Ext.refl _ | assumption | apply Ext.allocR | apply Ext.drewR | apply Ext.drewNR | (refine Ext.trans' ?_ (by assumption)))))
      clear hx6 hp hE5
      go_wp2_with fail
      refine (HQ.out _ _ (hE6.trans' (by (repeat' (first | exact Ext.refl _ | assumption | apply Ext.allocR | apply Ext.drewR | apply Ext.drewNR | (refine Ext.trans' ?_ (by assumption)))))) (by unfold I64; omega)).mono ?_
      rintro e w7 hp
      obtain ⟨_, rfl, hx7⟩ := hp.resolve_left (fun h => by have := h.1; omega)
      have hE7 : Ext w2 w7 := hE6.trans' (by (repeat' (first | exact Ext.refl _ | assumption | apply Ext.allocR | apply Ext.drewR | apply Ext.drewNR | (refine Ext.trans' ?_ (by assumption)))))
      clear hx7 hp hE6
      have hml := HM.out
      generalize wayI (ptK C B us) B 0 A = i1 at *
      go_wp2
      go_ret
      exact ⟨rfl, hE2.trans' hE7⟩
    · have hm := wayI_mono (ptK C B us) B 0 D A (by omega)
      have HM := Lib.hid hm
      clear hm
      go_wp2_with fail
      refine (HQ.out _ _ (hE5.trans' (by (repeat' (first | exact Ext.refl _ | assumption | apply Ext.allocR | apply Ext.drewR | apply Ext.drewNR | (refine Ext.trans' ?_ (by assumption)))))) (by unfold I64; omega)).mono ?_
      rintro e w6 hp
      obtain ⟨_, rfl, hx6⟩ := hp.resolve_left (fun h => by have := h.1; omega)
      have hE6 : Ext w2 w6 := hE5.trans' (by (repeat' (first | exact Ext.refl _ | assumption | apply Ext.allocR | apply Ext.drewR | apply Ext.drewNR | (refine Ext.trans' ?_ (by assumption)))))
      clear hx6 hp hE5
      go_wp2_with fail
      refine (HQ.out _ _ (hE6.trans' (by (repeat' (first | exact Ext.refl _ | assumption | apply Ext.allocR | apply Ext.drewR | apply Ext.drewNR | (refine Ext.trans' ?_ (by assumption)))))) (by unfold I64; omega)).mono ?_
      rintro e w7 hp
      obtain ⟨_, rfl, hx7⟩ := hp.resolve_left (fun h => by have := h.1; omega)
      have hE7 : Ext w2 w7 := hE6.trans' (by (repeat' (first | exact Ext.refl _ | assumption | apply Ext.allocR | apply Ext.drewR | apply Ext.drewNR | (refine Ext.trans' ?_ (by assumption)))))
      clear hx7 hp hE6
      have hml := HM.out
      generalize wayI (ptK C B us) B 0 A = i1 at *
      generalize wayI (ptK C B us) B 0 D = i2 at *
      go_wp2
      go_ret
      exact ⟨rfl, hE2.trans' hE7⟩
end Go.Proofs.Ytpnbgoahjoabkaa

/- gaugerlaw17.QuantWay, walked. -/
namespace Go.Proofs.Ytpnbgoahjoabkaa
set_option linter.unusedVariables false
open Go.RowKit
theorem way_step (pt : Nat → Int → Int) : ∀ (n : Nat) (i k : Int), 0 ≤ i → ∀ j : Nat, j < n →
    (((n, i) :: wayL pt n i k).getD (j + 1) (0, 0)).2 / 2 = (((n, i) :: wayL pt n i k).getD j (0, 0)).2 ∧ 0 ≤ (((n, i) :: wayL pt n i k).getD (j + 1) (0, 0)).2
  | 0, _, _, _, j, hj => absurd hj (Nat.not_lt_zero j)
  | n + 1, i, k, h0, j, hj => by
    rw [wayL_succ, List.getD_cons_succ]
    cases j with
    | zero =>
      split
      · exact ⟨by show 2 * i / 2 = i; omega, by show 0 ≤ 2 * i; omega⟩
      · exact ⟨by show (2 * i + 1) / 2 = i; omega, by show 0 ≤ 2 * i + 1; omega⟩
    | succ j =>
      rw [List.getD_cons_succ]
      split
      · exact way_step pt n (2 * i) k (by omega) j (by omega)
      · exact way_step pt n (2 * i + 1) _ (by omega) j (by omega)
theorem way_lev (pt : Nat → Int → Int) : ∀ (n : Nat) (i k : Int) (j : Nat), j ≤ n → (((n, i) :: wayL pt n i k).getD j (0, 0)).1 + j = n
  | n, i, k, 0, _ => by rfl
  | 0, _, _, j + 1, hj => absurd hj (by omega)
  | n + 1, i, k, j + 1, hj => by
    rw [wayL_succ, List.getD_cons_succ]
    split
    · have := way_lev pt n (2 * i) k j (by omega); omega
    · have := way_lev pt n (2 * i + 1) (k - pt n (2 * i)) j (by omega); omega
theorem way_bd (pt : Nat → Int → Int) : ∀ (n : Nat) (i k : Int) (j : Nat), 0 ≤ i → j ≤ n → (((n, i) :: wayL pt n i k).getD j (0, 0)).2 < (i + 1) * 2 ^ j
  | n, i, k, 0, h0, _ => by show i < (i + 1) * 2 ^ 0; omega
  | 0, _, _, j + 1, _, hj => absurd hj (by omega)
  | n + 1, i, k, j + 1, h0, hj => by
    have hp : (0 : Int) < 2 ^ j := Int.pow_pos (by decide)
    have e : (i + 1) * 2 ^ (j + 1) = (2 * i + 1 + 1) * (2 : Int) ^ j := by
      rw [Int.pow_succ, Int.mul_comm ((2 : Int) ^ j) 2, ← Int.mul_assoc]
      congr 1
      omega
    rw [wayL_succ, List.getD_cons_succ, e]
    split
    · have := way_bd pt n (2 * i) k j (by omega) (by omega)
      have : (2 * i + 1) * (2 : Int) ^ j ≤ (2 * i + 1 + 1) * 2 ^ j := Int.mul_le_mul_of_nonneg_right (by omega) (by omega)
      omega
    · exact way_bd pt n (2 * i + 1) _ j (by omega) (by omega)
set_option maxRecDepth 20000 in
set_option maxHeartbeats 8000000 in
theorem WayL_c (x : Cfg) (hx : x.Raw) (ka : Int) (hka : I64 ka) (us : List (Int × Int)) (hus : UpsOk us) (v : Value) (w : World) (hv : UpsAt w v us) (hul : us.length ≤ 140737488355328) :
    Calls Try.prog 17 #[.agg #[.int .i64 x.bits, .int .i64 x.rows, .int .i64 x.width, .int .i64 x.mode, .int .u64 x.seed, v], .int .i64 ka] w fun e w' => e = .returned (.bool true) ∧ Ext w w' := by
  obtain ⟨vp, vc, rfl⟩ := hv.sl
  have HV := Lib.hid hv
  clear hv
  go_enter Try.func17, Try.ntmps17
  go_wp2_with fail
  refine (shown17_c _).mono ?_
  rintro e w1 ⟨rfl, hb1⟩
  have hE1 : Ext w w1 := by (repeat' (first | exact Ext.refl _ | assumption | apply Ext.allocR | apply Ext.drewR | apply Ext.drewNR | (refine Ext.trans' ?_ (by assumption))))
  have hP1 := hb1.keep (heap_at w (.cells #[.int .i64 x.bits, .int .i64 x.rows, .int .i64 x.width, .int .i64 x.mode, .int .u64 x.seed, .slice vp us.length vc] 109) rfl)
  have p0 := (cell_of hP1 0).trans rfl
  have p1 := (cell_of hP1 1).trans rfl
  have p2 := (cell_of hP1 2).trans rfl
  have p3 := (cell_of hP1 3).trans rfl
  have p4 := (cell_of hP1 4).trans rfl
  have p5 := (cell_of hP1 5).trans rfl
  have pl := lt_of hP1
  clear hb1
  go_wp2_with fail
  refine Calls.mono (fed17_c x hx 10 (by decide) (by decide) 0 (by decide) (by decide) us hus _ _ (HV.out.ext hE1) hul) ?_
  rintro e w2 ⟨s, g, L, rfl, hK, hs, hg, hF, hx2⟩
  have hok := kcfg_ok x hx.s (nb := 10) (m := 0) (by decide) (by decide) (by decide)
  generalize kcfg x 10 0 = C at *
  have hb1 := hok.b1
  obtain ⟨B, hB⟩ : ∃ B : Nat, C.bits = B := ⟨C.bits.toNat, by omega⟩
  have hBt : C.bits.toNat = B := by omega
  have hBd : B ≤ 59 := by have := hok.b2; omega
  rw [hBt] at hK
  have hE2 : Ext w w2 := by (repeat' (first | exact Ext.refl _ | assumption | apply Ext.allocR | apply Ext.drewR | apply Ext.drewNR | (refine Ext.trans' ?_ (by assumption))))
  have HB := Lib.hid hB
  clear p0 p1 p2 p3 p4 p5 pl hP1 hx2 hE1 hs hg hF hBt hB
  have hT : Tells C B (feedK C (fus us 0 60)) (ptK C B us) := tells_fed C B us
  obtain ⟨tb1, tb2⟩ := tot_bd C B us
  have hQ := fun W' k (h : Ext w2 W') hk => Quantile_c s g C B L _ W' (hK.ext h) k hk _ hT
  have hWy := fun W' k (h : Ext w2 W') hk => Way_c s g C B L _ W' (hK.ext h) k hk _ hT
  have hTo := fun W' (h : Ext w2 W') => KTotal_c s g C B L _ W' (hK.ext h)
  generalize (feedK C (fus us 0 60) B).getD 0 0 = T at *
  have HQ := Lib.hid hQ
  have HWy := Lib.hid hWy
  clear hQ hWy hT hK
  go_upto_region 5 with (fail)
  obtain ⟨w3, hw3⟩ : ∃ w3, w2.alloc (.cells #[.int .i64 C.bits, .int .i64 C.rows, .int .i64 C.width, .int .i64 C.mode, .int .u64 C.seed] 24) = w3 := ⟨_, rfl⟩
  have hE3 : Ext w2 w3 := by rw [← hw3]; exact Ext.alloc' _ _
  have hC3 : CfgAt w3 w2.heap.size C := by rw [← hw3]; exact CfgAt.box C _ rfl
  rw [hw3]
  clear hw3
  go_wp2_with fail
  refine (hTo _ (hE3.trans' (by (repeat' (first | exact Ext.refl _ | assumption | apply Ext.allocR | apply Ext.drewR | apply Ext.drewNR | (refine Ext.trans' ?_ (by assumption))))))).mono ?_
  rintro e w4 ⟨rfl, hx4⟩
  have hE4 : Ext w3 w4 := by (repeat' (first | exact Ext.refl _ | assumption | apply Ext.allocR | apply Ext.drewR | apply Ext.drewNR | (refine Ext.trans' ?_ (by assumption))))
  clear hx4
  by_cases hz : T < 1
  · go_wp2
    go_ret
    exact ⟨rfl, hE2.trans' (hE3.trans' hE4)⟩
  go_wp2_with fail
  refine (hTo _ (hE3.trans' (hE4.trans' (by (repeat' (first | exact Ext.refl _ | assumption | apply Ext.allocR | apply Ext.drewR | apply Ext.drewNR | (refine Ext.trans' ?_ (by assumption)))))))).mono ?_
  rintro e w5 ⟨rfl, hx5⟩
  have hE5 : Ext w3 w5 := hE4.trans' (by (repeat' (first | exact Ext.refl _ | assumption | apply Ext.allocR | apply Ext.drewR | apply Ext.drewNR | (refine Ext.trans' ?_ (by assumption)))))
  clear hx5 hE4 hTo
  have a1 := and62i ka
  obtain ⟨r1, r2⟩ := rank_bd (x := ka) (T := T) (by omega)
  have hzT : (T == 0) = false := by simp; omega
  go_upto_region 8 with (fail)
  generalize hA : 1 + ka % 4611686018427387904 % T = A at *
  have hA1 : 1 ≤ A := by omega
  have hA2 : A ≤ T := by omega
  clear a1 r1 r2 hzT hA
  go_wp2_with fail
  refine (HWy.out _ _ (hE3.trans' (hE5.trans' (by (repeat' (first | exact Ext.refl _ | assumption | apply Ext.allocR | apply Ext.drewR | apply Ext.drewNR | (refine Ext.trans' ?_ (by assumption))))))) (by unfold I64; omega)).mono ?_
  rintro e w6 hp
  obtain ⟨_, v6, base, rfl, hbs, ho, hx6⟩ := hp.resolve_left (fun h => by have := h.1; omega)
  obtain ⟨g6, c6, rfl, hg6, hp6⟩ := own_pieces ho (by rw [wayP_len]; omega)
  have hE6 : Ext w3 w6 := hE5.trans' (by (repeat' (first | exact Ext.refl _ | assumption | apply Ext.allocR | apply Ext.drewR | apply Ext.drewNR | (refine Ext.trans' ?_ (by assumption)))))
  rw [wayP_len]
  have hlen := wayP_len (ptK C B us) B A
  have hst : ∀ j : Nat, j < B → ((wayP (ptK C B us) B A).getD (j + 1) (0, 0)).2 / 2 = ((wayP (ptK C B us) B A).getD j (0, 0)).2 ∧ 0 ≤ ((wayP (ptK C B us) B A).getD (j + 1) (0, 0)).2 := way_step (ptK C B us) B 0 A (Int.le_refl 0)
  have hlv : ∀ j : Nat, j ≤ B → ((wayP (ptK C B us) B A).getD j (0, 0)).1 + j = B := way_lev (ptK C B us) B 0 A
  have hla : (wayP (ptK C B us) B A).getD B (0, 0) = (0, wayI (ptK C B us) B 0 A) := way_last (ptK C B us) B 0 A
  have hfi : (wayP (ptK C B us) B A).getD 0 (0, 0) = (B, 0) := rfl
  have hub : ∀ j : Nat, j ≤ B → ((wayP (ptK C B us) B A).getD j (0, 0)).2 ≤ 576460752303423488 := fun j hj => by
    have h1 := way_bd (ptK C B us) B 0 A j (Int.le_refl 0) hj
    have h2 := pow_bd j (by omega)
    have h3 : ((wayP (ptK C B us) B A).getD j (0, 0)).2 < (0 + 1) * 2 ^ j := h1
    omega
  have HUB := Lib.hid hub
  clear hub
  have HLEN := Lib.hid hlen
  have HST := Lib.hid hst
  have HLV := Lib.hid hlv
  have HLA := Lib.hid hla
  have HFI := Lib.hid hfi
  have HP6 := Lib.hid hp6
  clear hx6 hp hE5 ho hbs hlen hst hlv hla hfi hp6 HWy
  generalize wayP (ptK C B us) B A = dn at *
  go_wp2_with fail
  refine (HQ.out _ _ (hE3.trans' (hE6.trans' (by (repeat' (first | exact Ext.refl _ | assumption | apply Ext.allocR | apply Ext.drewR | apply Ext.drewNR | (refine Ext.trans' ?_ (by assumption))))))) (by unfold I64; omega)).mono ?_
  rintro e w7 hp
  obtain ⟨_, rfl, hx7⟩ := hp.resolve_left (fun h => by have := h.1; omega)
  have hE67 : Ext w6 w7 := by (repeat' (first | exact Ext.refl _ | assumption | apply Ext.allocR | apply Ext.drewR | apply Ext.drewNR | (refine Ext.trans' ?_ (by assumption))))
  have hE7 : Ext w3 w7 := hE6.trans' hE67
  have hp7 := HP6.out.ext hg6 hE67
  have hg7 : g6 < w7.heap.size := Nat.lt_of_lt_of_le hg6 hE67.size
  clear hx7 hp HQ hE67 HP6 hE6 hg6
  generalize wayI (ptK C B us) B 0 A = key at *
  have hC7 := hC3.ext hE7
  have c0 := hC7.c0
  rw [HB.out] at c0
  have cl := hC7.lt
  obtain ⟨d0, d1⟩ := hp7 0 (by rw [HLEN.out]; omega)
  rw [HFI.out] at d0 d1
  simp only [Nat.zero_mul, Nat.add_zero, Nat.zero_add] at d0 d1
  have HP7 := Lib.hid hp7
  clear hC7 hC3 hp7 hA1 hA2 tb1 tb2 hz
  go_wp2_with fail
  refine wp_region_after (by kernel_rfl) (by kernel_rfl) ?_
  repeat (go_big_quiet_step (fail))
  refine wpQuiet_nil ?_
  rintro _ ⟨xx, rfl⟩
  obtain ⟨w8, hb8⟩ := xx
  try dsimp only
  have hE8 : Ext w3 w8 := hE7.trans' hb8
  have HP8 := Lib.hid (HP7.out.ext hg7 hb8)
  have hg8 : g6 < w8.heap.size := Nat.lt_of_lt_of_le hg7 hb8.size
  clear hb8 HP7 hE7 hg7 c0 cl d0 d1
  go_wp2
  go_loopw [12] (fun u wr => ∃ i : Nat, i ≤ B ∧ u = .int .i64 ((i : Int) + 1) ∧ Ext w8 wr) (fun u _ => B + 1 - (intOf u).toNat)
  case atStart => exact ⟨0, Nat.zero_le _, rfl, Ext.refl _⟩
  case round =>
    obtain ⟨i, hi, rfl, hEr⟩ := hrel
    have hgr : g6 < wr.heap.size := Nat.lt_of_lt_of_le hg8 hEr.size
    by_cases hlt : i < B
    · obtain ⟨d0, d1⟩ := (HP8.out.ext hg8 hEr) i (by rw [HLEN.out]; omega)
      obtain ⟨d2, d3⟩ := (HP8.out.ext hg8 hEr) (i + 1) (by rw [HLEN.out]; omega)
      rw [Nat.zero_add] at d0 d1 d2 d3
      obtain ⟨s1, s2⟩ := HST.out i hlt
      have ub := HUB.out (i + 1) (by omega)
      have v1 := HLV.out i (by omega)
      have v2 := HLV.out (i + 1) (by omega)
      generalize (dn.getD i (0, 0)).1 = la at *
      generalize (dn.getD (i + 1) (0, 0)).1 = lb at *
      generalize (dn.getD i (0, 0)).2 = ia at *
      generalize (dn.getD (i + 1) (0, 0)).2 = ib at *
      obtain rfl : la = lb + 1 := by omega
      have hq : (IntKind.u64.wrap (ib.tdiv 2) != ia) = false := by
        rw [IntKind.wrap_u64, Int.tdiv_eq_ediv_of_nonneg s2]
        simp
        omega
      go_wp2_with fail
      refine wp_region_after (by kernel_rfl) (by kernel_rfl) ?_
      repeat (go_big_quiet_step (fail))
      refine wpQuiet_nil ?_
      rintro _ ⟨xx, rfl⟩
      obtain ⟨w9, hb9⟩ := xx
      try dsimp only
      go_wp2
      go_roundw
      case rel => exact ⟨i + 1, by omega, by go_num, hEr.trans' hb9⟩
      case measure => simp [intOf]; omega
    · obtain rfl : i = B := by omega
      obtain ⟨d0, d1⟩ := (HP8.out.ext hg8 hEr) i (by rw [HLEN.out]; omega)
      rw [HLA.out, Nat.zero_add] at d1
      go_wp2
      go_ret
      exact ⟨rfl, hE2.trans' (hE3.trans' (hE8.trans' hEr))⟩
end Go.Proofs.Ytpnbgoahjoabkaa

/- What the arguments of the statements read as: a config, updates, a play. No condition. -/
namespace Go.Proofs.Ytpnbgoahjoabkaa
set_option linter.unusedVariables false
open Go.ChangeShapes Go.WideShapes Go.ChangeAt Go.RowKit Go.Deep

theorem wf_u64 {x : Int} (h : (Lit.int IntKind.u64 x).wf = true) : U64 x := by
  have := bounds_u64 h
  exact ⟨this.1, by omega⟩
theorem wf_i64 {x : Int} (h : (Lit.int IntKind.i64 x).wf = true) : I64 x := by
  have := bounds_i64 h
  exact ⟨this.1, by omega⟩
section
variable {H : Type} {enc : TypeId × Value → H} {w : World} {base : Nat} {spare : Nat → Bool} {held : Bool}
set_option maxRecDepth 100000 in
/-- Five cells that read as a config. -/
theorem cfg_of {n : Nat} {cs : List Value} {y : DataW H × List MemPlace} (h : DataW.trod enc Try.prog w base spare held n 24 cs = some y) :
    ∃ C : Cfg, C.Raw ∧ cs = [.int .i64 C.bits, .int .i64 C.rows, .int .i64 C.width, .int .i64 C.mode, .int .u64 C.seed] := by
  obtain ⟨xs, n, _, _, hl, hx, hg⟩ := DataW.trod_struct Try.underlying24 h
  have hl' : cs.length = 5 := hl.trans (by kernel_rfl)
  match cs, hl' with
  | [c0, c1, c2, c3, c4], _ =>
    have hx' : xs.length = 5 := hx.trans (by kernel_rfl)
    match xs, hx' with
    | [x0, x1, x2, x3, x4], _ =>
      have e0 : DataW.trod enc Try.prog w base spare held n 3 [c0] = some x0 := hg 0 _ rfl
      have e1 : DataW.trod enc Try.prog w base spare held n 3 [c1] = some x1 := hg 1 _ rfl
      have e2 : DataW.trod enc Try.prog w base spare held n 3 [c2] = some x2 := hg 2 _ rfl
      have e3 : DataW.trod enc Try.prog w base spare held n 3 [c3] = some x3 := hg 3 _ rfl
      have e4 : DataW.trod enc Try.prog w base spare held n 22 [c4] = some x4 := hg 4 _ rfl
      obtain ⟨a0, h0, _, w0⟩ := DataW.trod_int Try.underlying3 e0
      obtain ⟨a1, h1, _, w1⟩ := DataW.trod_int Try.underlying3 e1
      obtain ⟨a2, h2, _, w2⟩ := DataW.trod_int Try.underlying3 e2
      obtain ⟨a3, h3, _, w3⟩ := DataW.trod_int Try.underlying3 e3
      obtain ⟨a4, h4, _, w4⟩ := DataW.trod_int Try.underlying22 e4
      simp only [List.cons.injEq, and_true] at h0 h1 h2 h3 h4
      exact ⟨⟨a0, a1, a2, a3, a4⟩, ⟨wf_i64 w0, wf_i64 w1, wf_i64 w2, wf_i64 w3, wf_u64 w4⟩, by rw [h0, h1, h2, h3, h4]⟩
set_option maxRecDepth 100000 in
/-- Two cells that read as an update. -/
theorem upd_of {n : Nat} {cs : List Value} {y : DataW H × List MemPlace} (h : DataW.trod enc Try.prog w base spare held n 38 cs = some y) :
    ∃ u : Int × Int, (U64 u.1 ∧ I64 u.2) ∧ cs = [.int .u64 u.1, .int .i64 u.2] := by
  obtain ⟨xs, n, _, _, hl, hx, hg⟩ := DataW.trod_struct Try.underlying38 h
  have hl' : cs.length = 2 := hl.trans (by kernel_rfl)
  match cs, hl' with
  | [c0, c1], _ =>
    have hx' : xs.length = 2 := hx.trans (by kernel_rfl)
    match xs, hx' with
    | [x0, x1], _ =>
      have e0 : DataW.trod enc Try.prog w base spare held n 22 [c0] = some x0 := hg 0 _ rfl
      have e1 : DataW.trod enc Try.prog w base spare held n 2 [c1] = some x1 := hg 1 _ rfl
      obtain ⟨a0, h0, _, w0⟩ := DataW.trod_int Try.underlying22 e0
      obtain ⟨a1, h1, _, w1⟩ := DataW.trod_int Try.underlying2 e1
      simp only [List.cons.injEq, and_true] at h0 h1
      exact ⟨(a0, a1), ⟨wf_u64 w0, wf_i64 w1⟩, by rw [h0, h1]⟩
theorem add_plain0 (b off i : Nat) : (Addr.add ⟨b, off, none⟩ i) = ⟨b, off + i, none⟩ := by
  unfold Addr.add
  by_cases h : i = 0
  · subst h; simp
  · simp [h]
theorem choose_list {α : Type} (P : Nat → α → Prop) : ∀ n, (∀ i, i < n → ∃ x, P i x) → ∃ l : List α, l.length = n ∧ ∀ i (h : i < l.length), P i l[i] := by
  intro n
  induction n with
  | zero => intro _; exact ⟨[], rfl, fun i h => by simp at h⟩
  | succ n ih =>
    intro h
    obtain ⟨l, hl, hP⟩ := ih (fun i hi => h i (by omega))
    obtain ⟨x, hx⟩ := h n (by omega)
    refine ⟨l ++ [x], by simp [hl], fun i hi => ?_⟩
    by_cases e : i < l.length
    · rw [List.getElem_append_left e]; exact hP i e
    · have : i = n := by simp at hi; omega
      subst this
      rw [List.getElem_append_right (by omega)]
      simp [hl, hx]
/-- A cell that reads as a slice of updates. -/
theorem ups_of {n : Nat} {v : Value} {y : DataW H × List MemPlace} (h : DataW.trod enc Try.prog w 0 (fun _ => true) held n 25 [v] = some y) :
    ∃ us : List (Int × Int), UpsOk us ∧ UpsAt w v us ∧ (us = [] ∨ ∃ el sp : List (DataW H), y.1 = .slice el sp ∧ el.length = us.length) := by
  rcases open_slice Try.underlying25 h with ⟨hcs, _⟩ | ⟨a, len, cap, m, n', D, Pl, hcs, _, hlc, hcm, hm, hx, hi⟩
  · simp only [List.cons.injEq, and_true] at hcs
    subst hcs
    exact ⟨[], (by intro u hu; cases hu), .inl ⟨⟨_, rfl⟩, rfl⟩, .inl rfl⟩
  · simp only [List.cons.injEq, and_true] at hcs
    subst hcs
    simp only [if_true] at hm
    rw [hm] at hi hx
    clear hm
    have hC : Try.prog.cellsOf 38 = 2 := by kernel_rfl
    rw [hC] at hi
    have key : ∀ i, i < len → ∃ u : Int × Int, (U64 u.1 ∧ I64 u.2) ∧ w.cell? (a.add (i * 2)) = some (.int .u64 u.1) ∧ w.cell? (a.add (i * 2 + 1)) = some (.int .i64 u.2) := by
      intro i hil
      obtain ⟨cs', hc, ht⟩ := hi i (by omega)
      obtain ⟨u, hu, rfl⟩ := upd_of ht
      obtain ⟨_, _, hat⟩ := World.cells?_some hc
      refine ⟨u, hu, ?_, ?_⟩
      · have := hat 0 (by omega); rw [add_add, Nat.add_zero] at this; exact this
      · have := hat 1 (by omega); rw [add_add] at this; exact this
    obtain ⟨us, hul, hus⟩ := choose_list _ len key
    by_cases h0 : cap = 0
    · have hl0 : len = 0 := by omega
      subst hl0 h0
      obtain rfl : us = [] := List.length_eq_zero_iff.1 hul
      exact ⟨[], (by intro u hu; cases hu), .inl ⟨⟨_, rfl⟩, rfl⟩, .inl rfl⟩
    · obtain ⟨cs', hc, ht⟩ := hi 0 (by omega)
      obtain ⟨u, _, rfl⟩ := upd_of ht
      obtain ⟨_, _, hat⟩ := World.cells?_some hc
      have h1 := hat 0 (by omega)
      obtain ⟨b, off, spot⟩ := a
      have hspot : spot = none := by simpa [Addr.add] using World.cell?_spot h1
      subst hspot
      have hb : b < w.heap.size := by
        rcases Nat.lt_or_ge b w.heap.size with h' | h'
        · exact h'
        · simp [World.cell?, Addr.add, Array.getElem?_eq_none h'] at h1
      refine ⟨us, ?_, .inr ⟨b, off, cap, by rw [hul], hb, fun k hk => ?_⟩, .inr ⟨_, _, by rw [hx], by simp [hul]⟩⟩
      · intro u hu
        obtain ⟨i, hi', rfl⟩ := List.getElem_of_mem hu
        exact (hus i hi').1
      · have := (hus k hk).2
        have hg : us.getD k (0, 0) = us[k] := by simp [hk]
        rw [hg]
        rw [add_plain0, add_plain0] at this
        simpa only [Nat.add_assoc] using this
theorem reach_of {ts : List TypeId} {ds : List (DataW H)} {j : Nat} {t : TypeId} {d : DataW H} (hsz : (DataW.weightsEach Try.prog ts ds).all (· ≤ reachBytes) = true) (ht : ts[j]? = some t) (hd : ds[j]? = some d) {n : Nat} (hn : n ∈ d.weights Try.prog t) : n ≤ reachBytes := by
  have := List.all_eq_true.1 hsz _ (DataW.weights_mem_each ht hd n hn)
  simpa using this
end
end Go.Proofs.Ytpnbgoahjoabkaa

/- What a play of the later laws reads as. No condition. -/
namespace Go.Proofs.Ytpnbgoahjoabkaa
set_option linter.unusedVariables false
open Go.ChangeShapes Go.WideShapes Go.ChangeAt Go.RowKit Go.Deep

theorem own : ownKnob Try.prog.godebug = none := by kernel_rfl
theorem laidOut : laidOutB Try.prog = true := by kernel_rfl
section
variable {H : Type} {enc : TypeId × Value → H} {w : World} {held : Bool}
set_option maxRecDepth 100000 in
theorem cfgarg_of {r : Reach} {b0 : Nat} {v : Value} {d : DataW H} {p : List MemPlace} (hv : Value.okWide Try.prog w r b0 24 v) (h : DataW.Trod enc Try.prog w 0 (fun _ => true) held 24 v d p) :
    ∃ (x : Cfg), x.Raw ∧ v = .agg #[.int .i64 x.bits, .int .i64 x.rows, .int .i64 x.width, .int .i64 x.mode, .int .u64 x.seed] := by
  obtain ⟨cs, rfl, hsz⟩ := okWide_struct Try.underlying24 hv
  obtain ⟨fuel, hf⟩ := h
  obtain ⟨l⟩ := cs
  obtain ⟨x, hxr, hc⟩ := cfg_of hf
  have hc' : l = _ := hc
  subst hc'
  exact ⟨x, hxr, rfl⟩
set_option maxRecDepth 100000 in
theorem updarg_of {r : Reach} {b0 : Nat} {v : Value} {d : DataW H} {p : List MemPlace} (hv : Value.okWide Try.prog w r b0 38 v) (h : DataW.Trod enc Try.prog w 0 (fun _ => true) held 38 v d p) :
    ∃ (n m : Int), U64 n ∧ I64 m ∧ v = .agg #[.int .u64 n, .int .i64 m] := by
  obtain ⟨cs, rfl, hsz⟩ := okWide_struct Try.underlying38 hv
  obtain ⟨fuel, hf⟩ := h
  obtain ⟨l⟩ := cs
  obtain ⟨u, hu, hc⟩ := upd_of hf
  have hc' : l = _ := hc
  subst hc'
  exact ⟨u.1, u.2, hu.1, hu.2, rfl⟩
set_option maxRecDepth 100000 in
theorem play15_of {r : Reach} {b0 : Nat} {v : Value} {d : DataW H} {p : List MemPlace} (hv : Value.okWide Try.prog w r b0 64 v) (h : DataW.Trod enc Try.prog w 0 (fun _ => true) held 64 v d p) :
    ∃ (x : Cfg) (us : List (Int × Int)) (u : Value), x.Raw ∧ UpsOk us ∧ UpsAt w u us ∧ v = .agg #[.int .i64 x.bits, .int .i64 x.rows, .int .i64 x.width, .int .i64 x.mode, .int .u64 x.seed, u] ∧
      ∀ (ts : List TypeId) (ds : List (DataW H)) (j : Nat), (DataW.weightsEach Try.prog ts ds).all (· ≤ reachBytes) = true → ts[j]? = some 64 → ds[j]? = some d → us.length ≤ 140737488355328 := by
  obtain ⟨cs, rfl, hsz⟩ := okWide_struct Try.underlying64 hv
  obtain ⟨fuel, hf⟩ := h
  obtain ⟨l⟩ := cs
  obtain ⟨xs, n, _, hd, hl, hx, hg⟩ := DataW.trod_struct Try.underlying64 hf
  have hl' : l.length = 6 := hsz.trans (by kernel_rfl)
  match l, hl' with
  | [c0, c1, c2, c3, c4, c6], _ =>
    have hx' : xs.length = 2 := hx.trans (by kernel_rfl)
    match xs, hx' with
    | [x0, x2], _ =>
      have e0 : DataW.trod enc Try.prog w 0 (fun _ => true) held n 24 [c0, c1, c2, c3, c4] = some x0 := hg 0 _ rfl
      have e2 : DataW.trod enc Try.prog w 0 (fun _ => true) held n 25 [c6] = some x2 := hg 1 _ rfl
      obtain ⟨x, hxr, hc⟩ := cfg_of e0
      obtain ⟨us, hu, hat, hlen⟩ := ups_of e2
      simp only [List.cons.injEq, and_true] at hc
      obtain ⟨rfl, rfl, rfl, rfl, rfl⟩ := hc
      simp only [Prod.mk.injEq] at hd
      refine ⟨x, us, c6, hxr, hu, hat, rfl, fun ts ds j hs ht hj => ?_⟩
      rcases hlen with rfl | ⟨el, sp, hx2, hel⟩
      · simp
      · have hb : Try.prog.bytesOf 38 = 16 := by kernel_rfl
        have := reach_of hs ht hj (n := (el.length + sp.length) * Try.prog.bytesOf 38) (by
          rw [hd.1]
          simp [DataW.weights, DataW.weightsEach, hx2, Try.underlying64, Try.underlying25])
        rw [hb] at this
        simp only [reachBytes] at this
        omega
set_option maxRecDepth 100000 in
theorem cap_of {n : Nat} {v : Value} {y : DataW H × List MemPlace} (h : DataW.trod enc Try.prog w 0 (fun _ => true) held n 25 [v] = some y) : ∀ p n c, v = .slice p n c → n ≤ c := by
  rcases open_slice Try.underlying25 h with ⟨hcs, _⟩ | ⟨a, len, cap, m, n', D, Pl, hcs, _, hlc, _⟩
  · simp only [List.cons.injEq, and_true] at hcs
    rintro p n c rfl
    cases hcs
    exact Nat.le_refl _
  · simp only [List.cons.injEq, and_true] at hcs
    rintro p n c rfl
    cases hcs
    exact hlc
set_option maxRecDepth 100000 in
theorem cap15_of {r : Reach} {b0 : Nat} {v : Value} {d : DataW H} {p : List MemPlace} (hv : Value.okWide Try.prog w r b0 64 v) (h : DataW.Trod enc Try.prog w 0 (fun _ => true) held 64 v d p) :
    ∀ a0 a1 a2 a3 a4 u, v = .agg #[a0, a1, a2, a3, a4, u] → ∀ p n c, u = .slice p n c → n ≤ c := by
  obtain ⟨cs, rfl, hsz⟩ := okWide_struct Try.underlying64 hv
  obtain ⟨fuel, hf⟩ := h
  obtain ⟨l⟩ := cs
  obtain ⟨xs, n, _, hd, hl, hx, hg⟩ := DataW.trod_struct Try.underlying64 hf
  have hl' : l.length = 6 := hsz.trans (by kernel_rfl)
  match l, hl' with
  | [c0, c1, c2, c3, c4, c6], _ =>
    have hx' : xs.length = 2 := hx.trans (by kernel_rfl)
    match xs, hx' with
    | [x0, x2], _ =>
      have e2 : DataW.trod enc Try.prog w 0 (fun _ => true) held n 25 [c6] = some x2 := hg 1 _ rfl
      intro a0 a1 a2 a3 a4 u he
      have he' := Value.agg.inj he
      simp only [Array.mk.injEq, List.cons.injEq, and_true] at he'
      rw [← he'.2.2.2.2.2]
      exact cap_of e2
set_option maxRecDepth 100000 in
theorem play16_of {r : Reach} {b0 : Nat} {v : Value} {d : DataW H} {p : List MemPlace} (hv : Value.okWide Try.prog w r b0 97 v) (h : DataW.Trod enc Try.prog w 0 (fun _ => true) held 97 v d p) :
    ∃ (x : Cfg) (us : List (Int × Int)) (u : Value), x.Raw ∧ UpsOk us ∧ UpsAt w u us ∧ v = .agg #[.int .i64 x.bits, .int .i64 x.rows, .int .i64 x.width, .int .i64 x.mode, .int .u64 x.seed, u] ∧
      ∀ (ts : List TypeId) (ds : List (DataW H)) (j : Nat), (DataW.weightsEach Try.prog ts ds).all (· ≤ reachBytes) = true → ts[j]? = some 97 → ds[j]? = some d → us.length ≤ 140737488355328 := by
  obtain ⟨cs, rfl, hsz⟩ := okWide_struct Try.underlying97 hv
  obtain ⟨fuel, hf⟩ := h
  obtain ⟨l⟩ := cs
  obtain ⟨xs, n, _, hd, hl, hx, hg⟩ := DataW.trod_struct Try.underlying97 hf
  have hl' : l.length = 6 := hsz.trans (by kernel_rfl)
  match l, hl' with
  | [c0, c1, c2, c3, c4, c6], _ =>
    have hx' : xs.length = 2 := hx.trans (by kernel_rfl)
    match xs, hx' with
    | [x0, x2], _ =>
      have e0 : DataW.trod enc Try.prog w 0 (fun _ => true) held n 24 [c0, c1, c2, c3, c4] = some x0 := hg 0 _ rfl
      have e2 : DataW.trod enc Try.prog w 0 (fun _ => true) held n 25 [c6] = some x2 := hg 1 _ rfl
      obtain ⟨x, hxr, hc⟩ := cfg_of e0
      obtain ⟨us, hu, hat, hlen⟩ := ups_of e2
      simp only [List.cons.injEq, and_true] at hc
      obtain ⟨rfl, rfl, rfl, rfl, rfl⟩ := hc
      simp only [Prod.mk.injEq] at hd
      refine ⟨x, us, c6, hxr, hu, hat, rfl, fun ts ds j hs ht hj => ?_⟩
      rcases hlen with rfl | ⟨el, sp, hx2, hel⟩
      · simp
      · have hb : Try.prog.bytesOf 38 = 16 := by kernel_rfl
        have := reach_of hs ht hj (n := (el.length + sp.length) * Try.prog.bytesOf 38) (by
          rw [hd.1]
          simp [DataW.weights, DataW.weightsEach, hx2, Try.underlying97, Try.underlying25])
        rw [hb] at this
        simp only [reachBytes] at this
        omega
set_option maxRecDepth 100000 in
theorem play17_of {r : Reach} {b0 : Nat} {v : Value} {d : DataW H} {p : List MemPlace} (hv : Value.okWide Try.prog w r b0 109 v) (h : DataW.Trod enc Try.prog w 0 (fun _ => true) held 109 v d p) :
    ∃ (x : Cfg) (us : List (Int × Int)) (u : Value), x.Raw ∧ UpsOk us ∧ UpsAt w u us ∧ v = .agg #[.int .i64 x.bits, .int .i64 x.rows, .int .i64 x.width, .int .i64 x.mode, .int .u64 x.seed, u] ∧
      ∀ (ts : List TypeId) (ds : List (DataW H)) (j : Nat), (DataW.weightsEach Try.prog ts ds).all (· ≤ reachBytes) = true → ts[j]? = some 109 → ds[j]? = some d → us.length ≤ 140737488355328 := by
  obtain ⟨cs, rfl, hsz⟩ := okWide_struct Try.underlying109 hv
  obtain ⟨fuel, hf⟩ := h
  obtain ⟨l⟩ := cs
  obtain ⟨xs, n, _, hd, hl, hx, hg⟩ := DataW.trod_struct Try.underlying109 hf
  have hl' : l.length = 6 := hsz.trans (by kernel_rfl)
  match l, hl' with
  | [c0, c1, c2, c3, c4, c6], _ =>
    have hx' : xs.length = 2 := hx.trans (by kernel_rfl)
    match xs, hx' with
    | [x0, x2], _ =>
      have e0 : DataW.trod enc Try.prog w 0 (fun _ => true) held n 24 [c0, c1, c2, c3, c4] = some x0 := hg 0 _ rfl
      have e2 : DataW.trod enc Try.prog w 0 (fun _ => true) held n 25 [c6] = some x2 := hg 1 _ rfl
      obtain ⟨x, hxr, hc⟩ := cfg_of e0
      obtain ⟨us, hu, hat, hlen⟩ := ups_of e2
      simp only [List.cons.injEq, and_true] at hc
      obtain ⟨rfl, rfl, rfl, rfl, rfl⟩ := hc
      simp only [Prod.mk.injEq] at hd
      refine ⟨x, us, c6, hxr, hu, hat, rfl, fun ts ds j hs ht hj => ?_⟩
      rcases hlen with rfl | ⟨el, sp, hx2, hel⟩
      · simp
      · have hb : Try.prog.bytesOf 38 = 16 := by kernel_rfl
        have := reach_of hs ht hj (n := (el.length + sp.length) * Try.prog.bytesOf 38) (by
          rw [hd.1]
          simp [DataW.weights, DataW.weightsEach, hx2, Try.underlying109, Try.underlying25])
        rw [hb] at this
        simp only [reachBytes] at this
        omega
set_option maxRecDepth 100000 in
theorem play13_of {r : Reach} {b0 : Nat} {v : Value} {d : DataW H} {p : List MemPlace} (hv : Value.okWide Try.prog w r b0 118 v) (h : DataW.Trod enc Try.prog w 0 (fun _ => true) held 118 v d p) :
    ∃ (x : Cfg) (lv : Int) (us : List (Int × Int)) (u : Value), x.Raw ∧ I64 lv ∧ UpsOk us ∧ UpsAt w u us ∧ v = .agg #[.int .i64 x.bits, .int .i64 x.rows, .int .i64 x.width, .int .i64 x.mode, .int .u64 x.seed, .int .i64 lv, u] ∧
      ∀ (ts : List TypeId) (ds : List (DataW H)) (j : Nat), (DataW.weightsEach Try.prog ts ds).all (· ≤ reachBytes) = true → ts[j]? = some 118 → ds[j]? = some d → us.length ≤ 140737488355328 := by
  obtain ⟨cs, rfl, hsz⟩ := okWide_struct Try.underlying118 hv
  obtain ⟨fuel, hf⟩ := h
  obtain ⟨l⟩ := cs
  obtain ⟨xs, n, _, hd, hl, hx, hg⟩ := DataW.trod_struct Try.underlying118 hf
  have hl' : l.length = 7 := hsz.trans (by kernel_rfl)
  match l, hl' with
  | [c0, c1, c2, c3, c4, c5, c6], _ =>
    have hx' : xs.length = 3 := hx.trans (by kernel_rfl)
    match xs, hx' with
    | [x0, x1, x2], _ =>
      have e0 : DataW.trod enc Try.prog w 0 (fun _ => true) held n 24 [c0, c1, c2, c3, c4] = some x0 := hg 0 _ rfl
      have e1 : DataW.trod enc Try.prog w 0 (fun _ => true) held n 3 [c5] = some x1 := hg 1 _ rfl
      have e2 : DataW.trod enc Try.prog w 0 (fun _ => true) held n 25 [c6] = some x2 := hg 2 _ rfl
      obtain ⟨x, hxr, hc⟩ := cfg_of e0
      obtain ⟨lv, h1, _, w1⟩ := DataW.trod_int Try.underlying3 e1
      obtain ⟨us, hu, hat, hlen⟩ := ups_of e2
      simp only [List.cons.injEq, and_true] at hc h1
      obtain ⟨rfl, rfl, rfl, rfl, rfl⟩ := hc
      subst h1
      simp only [Prod.mk.injEq] at hd
      refine ⟨x, lv, us, c6, hxr, wf_i64 w1, hu, hat, rfl, fun ts ds j hs ht hj => ?_⟩
      rcases hlen with rfl | ⟨el, sp, hx2, hel⟩
      · simp
      · have hb : Try.prog.bytesOf 38 = 16 := by kernel_rfl
        have := reach_of hs ht hj (n := (el.length + sp.length) * Try.prog.bytesOf 38) (by
          rw [hd.1]
          simp [DataW.weights, DataW.weightsEach, hx2, Try.underlying118, Try.underlying25])
        rw [hb] at this
        simp only [reachBytes] at this
        omega
end
end Go.Proofs.Ytpnbgoahjoabkaa

/- QuantWay: the way goes from all keys to the answer, each time to one of the halves. No condition: every input. -/
namespace Go.Proofs.Ytpnbgoahjoabkaa
set_option linter.unusedVariables false
open Go.ChangeShapes Go.WideShapes Go.ChangeAt Go.RowKit

set_option maxRecDepth 100000 in
theorem quantWay_lifted (os : Os) (started : os.Started) (H : Type) (enc : TypeId × Value → H) :
    ReturnsInHanded {} Try.checked os 17 .any (Rows.quantWaySpec.pre6 enc Try.prog Try.f17 Rows.quantWayRow.domain false) (Rows.quantWaySpec.post enc Try.prog Try.f17 false true false false) := by
  refine returnsInHanded_of_change_sized (C := Try.checked) own started (by kernel_rfl) Try.func17
    (ChangeSpec.witness6 (enc := enc) (C := Try.checked) false ⟨#[], #[.agg #[.int .i64 0, .int .i64 0, .int .i64 0, .int .i64 0, .int .u64 0, .slice none 0 0], .int .i64 0], []⟩ 8 (by kernel_rfl) (by kernel_rfl) (by kernel_rfl) (by kernel_rfl)) ?_
  intro W base args ds gs before hval0 hW hcnd hsz0 _
  have hval : ∀ (j : Nat) t v, Try.f17.params[j]? = some t → args[j]? = some v → Value.okWide Try.prog W .any base t v := hval0
  have hW' := hW
  obtain ⟨p, q, hA0, hV, rfl, hfz, hnd⟩ := hW
  have hA : DataW.TrodAll enc Try.prog W 0 (fun _ => true) true Try.f17.params.toList args.toList ds p := hA0
  have hsz : (DataW.weightsEach Try.prog (Try.f17.params.toList ++ Rows.quantWaySpec.plain.varTypes Try.prog) (ds ++ gs)).all (· ≤ reachBytes) = true := hsz0
  rw [Try.params17] at hA hval hsz
  obtain ⟨v0, vs0, d0, ds0, p0, q0, hargs, rfl, rfl, h0, r0⟩ := trodAll_cons hA
  obtain ⟨v1, vs1, d1, ds1, p1, q1, rfl, rfl, rfl, h1, r1⟩ := trodAll_cons r0
  obtain ⟨rfl, rfl, rfl⟩ := trodAll_nil r1
  obtain rfl : args = #[v0, v1] := by cases args; simp_all
  obtain ⟨rfl, rfl⟩ := trodVars_none hV
  have k0 := h0
  have k1 := h1
  have lt0 : ∀ x ∈ p0, x.block < W.heap.size := by obtain ⟨m, hm⟩ := k0; exact DataW.trod_lt m _ _ _ hm
  have lt1 : ∀ x ∈ p1, x.block < W.heap.size := by obtain ⟨m, hm⟩ := k1; exact DataW.trod_lt m _ _ _ hm
  obtain ⟨x0, us0, u0, hx0, hus0, hat0, rfl, hr0⟩ := play17_of (hval 0 _ v0 rfl rfl) h0
  have hul0 := hr0 _ _ 0 hsz rfl rfl
  obtain ⟨n1, rfl, _, _, wf1⟩ := open_int Try.underlying2 (hval 1 _ v1 rfl rfl) h1
  have hn1 := wf_i64 wf1
  clear hA0 hval0
  refine (WayL_c x0 hx0 n1 hn1 us0 hus0 u0 W hat0 hul0).mono fun e W' ⟨he, bel⟩ => ?_
  subst he
  exact ⟨_, rfl, _, _, _, [], _, [], hW', trodAll_mk1 (shut_bool Try.underlying4 _), (trodAll_cons_mk (Below.trod laidOut (by kernel_rfl) (of_decide_eq_true (by kernel_rfl)) k0 bel lt0) (trodAll_cons_mk (Below.trod laidOut (by kernel_rfl) (of_decide_eq_true (by kernel_rfl)) k1 bel lt1) trodAll_mk0)), rfl, bel.frame _, fun h => by cases h⟩
end Go.Proofs.Ytpnbgoahjoabkaa
