/- gaugerlaw17.QuantRises, walked. -/
import Derived.Test.YtpnbgoahjoabkaaAQuantBounds7
import Derived.ProofKit
import Derived.OpenShut
import Derived.ChangeOld
import Derived.Below
import Derived.SizedLaws
import Derived.Deep.Slices
import Derived.Deep.Fields

/- gaugerlaw17.QuantRises, walked. -/
namespace Go.Proofs.Ytpnbgoahjoabkaa
set_option linter.unusedVariables false
open Go.RowKit
theorem and62i (x : Int) : bits BinOp.and IntKind.i64 x 4611686018427387903 = x % 4611686018427387904 := by
  show IntKind.i64.wrap ((BitVec.ofInt 64 x &&& BitVec.ofInt 64 4611686018427387903).toNat : Int) = _
  have e1 : (BitVec.ofInt 64 (4611686018427387903 : Int)).toNat = 2 ^ 62 - 1 := by decide
  rw [BitVec.toNat_and, e1, Nat.and_two_pow_sub_one_eq_mod, BitVec.toNat_ofInt, IntKind.wrap_i64]
  have : (x % ((2 ^ 64 : Nat) : Int)).toNat % 2 ^ 62 < 4611686018427387904 := Nat.mod_lt _ (by decide)
  omega
theorem rank_bd {x T : Int} (hT : 1 ≤ T) : 0 ≤ x % 4611686018427387904 % T ∧ x % 4611686018427387904 % T < T :=
  ⟨Int.emod_nonneg _ (by omega), Int.emod_lt_of_pos _ (by omega)⟩
theorem tot_bd (C : Cfg) (B : Nat) (us : List (Int × Int)) : -65970697666560 ≤ (feedK C (fus us 0 60) B).getD 0 0 ∧ (feedK C (fus us 0 60) B).getD 0 0 ≤ 65970697666560 := (fed_bnd C us B).getD (by decide) 0
set_option maxRecDepth 20000 in
set_option maxHeartbeats 8000000 in
theorem RisesL_c (x : Cfg) (hx : x.Raw) (ka : Int) (hka : I64 ka) (kb : Int) (hkb : I64 kb) (us : List (Int × Int)) (hus : UpsOk us) (v : Value) (w : World) (hv : UpsAt w v us) (hul : us.length ≤ 140737488355328) :
    Calls Try.prog 16 #[.agg #[.int .i64 x.bits, .int .i64 x.rows, .int .i64 x.width, .int .i64 x.mode, .int .u64 x.seed, v], .int .i64 ka, .int .i64 kb] w fun e w' => e = .returned (.bool true) ∧ Ext w w' := by
  obtain ⟨vp, vc, rfl⟩ := hv.sl
  have HV := Lib.hid hv
  clear hv
  go_enter Try.func16, Try.ntmps16
  go_wp2_with fail
  refine (shown17_c _).mono ?_
  rintro e w1 ⟨rfl, hb1⟩
  have hE1 : Ext w w1 := by (repeat' (first | exact Ext.refl _ | assumption | apply Ext.allocR | apply Ext.drewR | apply Ext.drewNR | (refine Ext.trans' ?_ (by assumption))))
  have hP1 := hb1.keep (heap_at w (.cells #[.int .i64 x.bits, .int .i64 x.rows, .int .i64 x.width, .int .i64 x.mode, .int .u64 x.seed, .slice vp us.length vc] 109) rfl)
  have p0 := (cell_of hP1 0).trans rfl
  have p1 := (cell_of hP1 1).trans rfl
  have p2 := (cell_of hP1 2).trans rfl
  have p3 := (cell_of hP1 3).trans rfl
  have p4 := (cell_of hP1 4).trans rfl
  have p5 := (cell_of hP1 5).trans rfl
  have pl := lt_of hP1
  clear hb1
  go_wp2_with fail
  refine Calls.mono (fed17_c x hx 10 (by decide) (by decide) 0 (by decide) (by decide) us hus _ _ (HV.out.ext hE1) hul) ?_
  rintro e w2 ⟨s, g, L, rfl, hK, hs, hg, hF, hx2⟩
  have hok := kcfg_ok x hx.s (nb := 10) (m := 0) (by decide) (by decide) (by decide)
  generalize kcfg x 10 0 = C at *
  have hb1 := hok.b1
  obtain ⟨B, hB⟩ : ∃ B : Nat, C.bits = B := ⟨C.bits.toNat, by omega⟩
  have hBt : C.bits.toNat = B := by omega
  rw [hBt] at hK
  have hE2 : Ext w w2 := by (repeat' (first | exact Ext.refl _ | assumption | apply Ext.allocR | apply Ext.drewR | apply Ext.drewNR | (refine Ext.trans' ?_ (by assumption))))
  clear p0 p1 p2 p3 p4 p5 pl hP1 hx2 hE1 hs hg hF hBt
  have hT : Tells C B (feedK C (fus us 0 60)) (ptK C B us) := tells_fed C B us
  obtain ⟨tb1, tb2⟩ := tot_bd C B us
  have hQ := fun W' k (h : Ext w2 W') hk => Quantile_c s g C B L _ W' (hK.ext h) k hk _ hT
  have hTo := fun W' (h : Ext w2 W') => KTotal_c s g C B L _ W' (hK.ext h)
  generalize (feedK C (fus us 0 60) B).getD 0 0 = T at *
  have HQ := Lib.hid hQ
  clear hQ hT hK
  go_wp2_with fail
  refine (hTo _ (by (repeat' (first | exact Ext.refl _ | assumption | apply Ext.allocR | apply Ext.drewR | apply Ext.drewNR | (refine Ext.trans' ?_ (by assumption)))))).mono ?_
  rintro e w3 ⟨rfl, hx3⟩
  have hE3 : Ext w2 w3 := by (repeat' (first | exact Ext.refl _ | assumption | apply Ext.allocR | apply Ext.drewR | apply Ext.drewNR | (refine Ext.trans' ?_ (by assumption))))
  clear hx3 hTo
  go_wp2_with fail
  refine (HQ.out _ 0 (hE3.trans' (by (repeat' (first | exact Ext.refl _ | assumption | apply Ext.allocR | apply Ext.drewR | apply Ext.drewNR | (refine Ext.trans' ?_ (by assumption)))))) (by unfold I64; omega)).mono ?_
  rintro e w4 hp
  obtain ⟨_, rfl, hx4⟩ := hp.resolve_right (fun h => by have := h.1; omega)
  have hE4 : Ext w2 w4 := hE3.trans' (by (repeat' (first | exact Ext.refl _ | assumption | apply Ext.allocR | apply Ext.drewR | apply Ext.drewNR | (refine Ext.trans' ?_ (by assumption)))))
  clear hx4 hp hE3
  by_cases hneg : T < 0
  · go_wp2_with fail
    refine (HQ.out _ _ (hE4.trans' (by (repeat' (first | exact Ext.refl _ | assumption | apply Ext.allocR | apply Ext.drewR | apply Ext.drewNR | (refine Ext.trans' ?_ (by assumption)))))) (by unfold I64; omega)).mono ?_
    rintro e w5 hp
    obtain ⟨_, rfl, hx5⟩ := hp.resolve_right (fun h => by have := h.1; omega)
    have hE5 : Ext w2 w5 := hE4.trans' (by (repeat' (first | exact Ext.refl _ | assumption | apply Ext.allocR | apply Ext.drewR | apply Ext.drewNR | (refine Ext.trans' ?_ (by assumption)))))
    clear hx5 hp hE4
    go_wp2
    go_ret
    exact ⟨rfl, hE2.trans' hE5⟩
  by_cases hz : T < 1
  · go_wp2_with fail
    refine (HQ.out _ _ (hE4.trans' (by (repeat' (first | exact Ext.refl _ | assumption | apply Ext.allocR | apply Ext.drewR | apply Ext.drewNR | (refine Ext.trans' ?_ (by assumption)))))) (by unfold I64; omega)).mono ?_
    rintro e w5 hp
    obtain ⟨_, rfl, hx5⟩ := hp.resolve_right (fun h => by have := h.1; omega)
    have hE5 : Ext w2 w5 := hE4.trans' (by (repeat' (first | exact Ext.refl _ | assumption | apply Ext.allocR | apply Ext.drewR | apply Ext.drewNR | (refine Ext.trans' ?_ (by assumption)))))
    clear hx5 hp hE4
    go_wp2
    go_ret
    exact ⟨rfl, hE2.trans' hE5⟩
  go_wp2_with fail
  refine (HQ.out _ _ (hE4.trans' (by (repeat' (first | exact Ext.refl _ | assumption | apply Ext.allocR | apply Ext.drewR | apply Ext.drewNR | (refine Ext.trans' ?_ (by assumption)))))) (by unfold I64; omega)).mono ?_
  rintro e w5 hp
  obtain ⟨_, rfl, hx5⟩ := hp.resolve_right (fun h => by have := h.1; omega)
  have hE5 : Ext w2 w5 := hE4.trans' (by (repeat' (first | exact Ext.refl _ | assumption | apply Ext.allocR | apply Ext.drewR | apply Ext.drewNR | (refine Ext.trans' ?_ (by assumption)))))
  clear hx5 hp hE4
  have a1 := and62i ka
  have a2 := and62i kb
  obtain ⟨r1, r2⟩ := rank_bd (x := ka) (T := T) (by omega)
  obtain ⟨r3, r4⟩ := rank_bd (x := kb) (T := T) (by omega)
  have hzT : (T == 0) = false := by simp; omega
  go_upto_region 12 with (fail)
  obtain ⟨A, hA⟩ : ∃ A, 1 + ka % 4611686018427387904 % T = A := ⟨_, rfl⟩
  obtain ⟨D, hD⟩ : ∃ D, 1 + kb % 4611686018427387904 % T = D := ⟨_, rfl⟩
  have HA := Lib.hid hA
  have HD := Lib.hid hD
  go_cut [1] (fun s1 wx => s1 = .int .i64 A ∧ w5 = wx)
  case first =>
    clear hA hD
    go_wp2
    go_meet
    exact ⟨by rw [HA.out], rfl⟩
  case rest =>
   obtain ⟨rfl, rfl⟩ := hcut
   go_upto_region 13 with (fail)
   go_cut [2] (fun s2 wx => s2 = .int .i64 D ∧ w5 = wx)
   case first =>
     clear hA hD
     go_wp2
     go_meet
     exact ⟨by rw [HD.out], rfl⟩
   case rest =>
    obtain ⟨rfl, rfl⟩ := hcut
    have hA1 : 1 ≤ A := by omega
    have hA2 : A ≤ T := by omega
    have hD1 : 1 ≤ D := by omega
    have hD2 : D ≤ T := by omega
    clear a1 a2 r1 r2 r3 r4 hzT hA hD HA HD
    rcases Int.lt_trichotomy A D with hlt | rfl | hlt
    · have hm := wayI_mono (ptK C B us) B 0 A D (by omega)
      have HM := Lib.hid hm
      clear hm
      go_wp2_with fail
      refine (HQ.out _ _ (hE5.trans' (by (repeat' (first | exact Ext.refl _ | assumption | apply Ext.allocR | apply Ext.drewR | apply Ext.drewNR | (refine Ext.trans' ?_ (by assumption)))))) (by unfold I64; omega)).mono ?_
      rintro e w6 hp
      obtain ⟨_, rfl, hx6⟩ := hp.resolve_left (fun h => by have := h.1; omega)
      have hE6 : Ext w2 w6 := hE5.trans' (by (repeat' (first | exact Ext.refl _ | assumption | apply Ext.allocR | apply Ext.drewR | apply Ext.drewNR | (refine Ext.trans' ?_ (by assumption)))))
      clear hx6 hp hE5
      go_wp2_with fail
      refine (HQ.out _ _ (hE6.trans' (by (repeat' (first | exact Ext.refl _ | assumption | apply Ext.allocR | apply Ext.drewR | apply Ext.drewNR | (refine Ext.trans' ?_ (by assumption)))))) (by unfold I64; omega)).mono ?_
      rintro e w7 hp
      obtain ⟨_, rfl, hx7⟩ := hp.resolve_left (fun h => by have := h.1; omega)
      have hE7 : Ext w2 w7 := hE6.trans' (by (repeat' (first | exact Ext.refl _ | assumption | apply Ext.allocR | apply Ext.drewR | apply Ext.drewNR | (refine Ext.trans' ?_ (by assumption)))))
      clear hx7 hp hE6
      have hml := HM.out
      generalize wayI (ptK C B us) B 0 A = i1 at *
      generalize wayI (ptK C B us) B 0 D = i2 at *
      go_wp2
      go_ret
      exact ⟨rfl, hE2.trans' hE7⟩
    · have hm := wayI_mono (ptK C B us) B 0 A A (by omega)
      have HM := Lib.hid hm
      clear hm
      go_wp2_with fail
      refine (HQ.out _ _ (hE5.trans' (by (repeat' (first | exact Ext.refl _ | assumption | apply Ext.allocR | apply Ext.drewR | apply Ext.drewNR | (refine Ext.trans' ?_ (by assumption)))))) (by unfold I64; omega)).mono ?_
      rintro e w6 hp
      obtain ⟨_, rfl, hx6⟩ := hp.resolve_left (fun h => by have := h.1; omega)
      have hE6 : Ext w2 w6 := hE5.trans' (by (repeat' (first | exact Ext.refl _ | assumption | apply Ext.allocR | apply Ext.drewR | apply Ext.drewNR | (refine Ext.trans' ?_ (by assumption)))))
      clear hx6 hp hE5
      go_wp2_with fail
      refine (HQ.out _ _ (hE6.trans' (by (repeat' (first | exact Ext.refl _ | assumption | apply Ext.allocR | apply Ext.drewR | apply Ext.drewNR | (refine Ext.trans' ?_ (by assumption)))))) (by unfold I64; omega)).mono ?_
      rintro e w7 hp
      obtain ⟨_, rfl, hx7⟩ := hp.resolve_left (fun h => by have := h.1; omega)
      have hE7 : Ext w2 w7 := hE6.trans' (by (repeat' (first | exact Ext.refl _ | assumption | apply Ext.allocR | apply Ext.drewR | apply Ext.drewNR | (refine Ext.trans' ?_ (by assumption)))))
      clear hx7 hp hE6
      have hml := HM.out
      generalize wayI (ptK C B us) B 0 A = i1 at *
      go_wp2
      go_ret
      exact ⟨rfl, hE2.trans' hE7⟩
    · have hm := wayI_mono (ptK C B us) B 0 D A (by omega)
      have HM := Lib.hid hm
      clear hm
      go_wp2_with fail
      refine (HQ.out _ _ (hE5.trans' (by (repeat' (first | exact Ext.refl _ | assumption | apply Ext.allocR | apply Ext.drewR | apply Ext.drewNR | (refine Ext.trans' ?_ (by assumption)))))) (by unfold I64; omega)).mono ?_
      rintro e w6 hp
      obtain ⟨_, rfl, hx6⟩ := hp.resolve_left (fun h => by have := h.1; omega)
      have hE6 : Ext w2 w6 := hE5.trans' (by (repeat' (first | exact Ext.refl _ | assumption | apply Ext.allocR | apply Ext.drewR | apply Ext.drewNR | (refine Ext.trans' ?_ (by assumption)))))
      clear hx6 hp hE5
      go_wp2_with fail
      refine (HQ.out _ _ (hE6.trans' (by (repeat' (first | exact Ext.refl _ | assumption | apply Ext.allocR | apply Ext.drewR | apply Ext.drewNR | (refine Ext.trans' ?_ (by assumption)))))) (by unfold I64; omega)).mono ?_
      rintro e w7 hp
      obtain ⟨_, rfl, hx7⟩ := hp.resolve_left (fun h => by have := h.1; omega)
      have hE7 : Ext w2 w7 := hE6.trans' (by (repeat' (first | exact Ext.refl _ | assumption | apply Ext.allocR | apply Ext.drewR | apply Ext.drewNR | (refine Ext.trans' ?_ (by assumption)))))
      clear hx7 hp hE6
      have hml := HM.out
      generalize wayI (ptK C B us) B 0 A = i1 at *
      generalize wayI (ptK C B us) B 0 D = i2 at *
      go_wp2
      go_ret
      exact ⟨rfl, hE2.trans' hE7⟩
end Go.Proofs.Ytpnbgoahjoabkaa

/- gaugerlaw17.QuantWay, walked. -/
namespace Go.Proofs.Ytpnbgoahjoabkaa
set_option linter.unusedVariables false
open Go.RowKit
theorem way_step (pt : Nat → Int → Int) : ∀ (n : Nat) (i k : Int), 0 ≤ i → ∀ j : Nat, j < n →
    (((n, i) :: wayL pt n i k).getD (j + 1) (0, 0)).2 / 2 = (((n, i) :: wayL pt n i k).getD j (0, 0)).2 ∧ 0 ≤ (((n, i) :: wayL pt n i k).getD (j + 1) (0, 0)).2
  | 0, _, _, _, j, hj => absurd hj (Nat.not_lt_zero j)
  | n + 1, i, k, h0, j, hj => by
    rw [wayL_succ, List.getD_cons_succ]
    cases j with
    | zero =>
      split
      · exact ⟨by show 2 * i / 2 = i; omega, by show 0 ≤ 2 * i; omega⟩
      · exact ⟨by show (2 * i + 1) / 2 = i; omega, by show 0 ≤ 2 * i + 1; omega⟩
    | succ j =>
      rw [List.getD_cons_succ]
      split
      · exact way_step pt n (2 * i) k (by omega) j (by omega)
      · exact way_step pt n (2 * i + 1) _ (by omega) j (by omega)
theorem way_lev (pt : Nat → Int → Int) : ∀ (n : Nat) (i k : Int) (j : Nat), j ≤ n → (((n, i) :: wayL pt n i k).getD j (0, 0)).1 + j = n
  | n, i, k, 0, _ => by rfl
  | 0, _, _, j + 1, hj => absurd hj (by omega)
  | n + 1, i, k, j + 1, hj => by
    rw [wayL_succ, List.getD_cons_succ]
    split
    · have := way_lev pt n (2 * i) k j (by omega); omega
    · have := way_lev pt n (2 * i + 1) (k - pt n (2 * i)) j (by omega); omega
theorem way_bd (pt : Nat → Int → Int) : ∀ (n : Nat) (i k : Int) (j : Nat), 0 ≤ i → j ≤ n → (((n, i) :: wayL pt n i k).getD j (0, 0)).2 < (i + 1) * 2 ^ j
  | n, i, k, 0, h0, _ => by show i < (i + 1) * 2 ^ 0; omega
  | 0, _, _, j + 1, _, hj => absurd hj (by omega)
  | n + 1, i, k, j + 1, h0, hj => by
    have hp : (0 : Int) < 2 ^ j := Int.pow_pos (by decide)
    have e : (i + 1) * 2 ^ (j + 1) = (2 * i + 1 + 1) * (2 : Int) ^ j := by
      rw [Int.pow_succ, Int.mul_comm ((2 : Int) ^ j) 2, ← Int.mul_assoc]
      congr 1
      omega
    rw [wayL_succ, List.getD_cons_succ, e]
    split
    · have := way_bd pt n (2 * i) k j (by omega) (by omega)
      have : (2 * i + 1) * (2 : Int) ^ j ≤ (2 * i + 1 + 1) * 2 ^ j := Int.mul_le_mul_of_nonneg_right (by omega) (by omega)
      omega
    · exact way_bd pt n (2 * i + 1) _ j (by omega) (by omega)
set_option maxRecDepth 20000 in
set_option maxHeartbeats 8000000 in
theorem WayL_c (x : Cfg) (hx : x.Raw) (ka : Int) (hka : I64 ka) (us : List (Int × Int)) (hus : UpsOk us) (v : Value) (w : World) (hv : UpsAt w v us) (hul : us.length ≤ 140737488355328) :
    Calls Try.prog 17 #[.agg #[.int .i64 x.bits, .int .i64 x.rows, .int .i64 x.width, .int .i64 x.mode, .int .u64 x.seed, v], .int .i64 ka] w fun e w' => e = .returned (.bool true) ∧ Ext w w' := by
  obtain ⟨vp, vc, rfl⟩ := hv.sl
  have HV := Lib.hid hv
  clear hv
  go_enter Try.func17, Try.ntmps17
  go_wp2_with fail
  refine (shown17_c _).mono ?_
  rintro e w1 ⟨rfl, hb1⟩
  have hE1 : Ext w w1 := by (repeat' (first | exact Ext.refl _ | assumption | apply Ext.allocR | apply Ext.drewR | apply Ext.drewNR | (refine Ext.trans' ?_ (by assumption))))
  have hP1 := hb1.keep (heap_at w (.cells #[.int .i64 x.bits, .int .i64 x.rows, .int .i64 x.width, .int .i64 x.mode, .int .u64 x.seed, .slice vp us.length vc] 109) rfl)
  have p0 := (cell_of hP1 0).trans rfl
  have p1 := (cell_of hP1 1).trans rfl
  have p2 := (cell_of hP1 2).trans rfl
  have p3 := (cell_of hP1 3).trans rfl
  have p4 := (cell_of hP1 4).trans rfl
  have p5 := (cell_of hP1 5).trans rfl
  have pl := lt_of hP1
  clear hb1
  go_wp2_with fail
  refine Calls.mono (fed17_c x hx 10 (by decide) (by decide) 0 (by decide) (by decide) us hus _ _ (HV.out.ext hE1) hul) ?_
  rintro e w2 ⟨s, g, L, rfl, hK, hs, hg, hF, hx2⟩
  have hok := kcfg_ok x hx.s (nb := 10) (m := 0) (by decide) (by decide) (by decide)
  generalize kcfg x 10 0 = C at *
  have hb1 := hok.b1
  obtain ⟨B, hB⟩ : ∃ B : Nat, C.bits = B := ⟨C.bits.toNat, by omega⟩
  have hBt : C.bits.toNat = B := by omega
  have hBd : B ≤ 59 := by have := hok.b2; omega
  rw [hBt] at hK
  have hE2 : Ext w w2 := by (repeat' (first | exact Ext.refl _ | assumption | apply Ext.allocR | apply Ext.drewR | apply Ext.drewNR | (refine Ext.trans' ?_ (by assumption))))
  have HB := Lib.hid hB
  clear p0 p1 p2 p3 p4 p5 pl hP1 hx2 hE1 hs hg hF hBt hB
  have hT : Tells C B (feedK C (fus us 0 60)) (ptK C B us) := tells_fed C B us
  obtain ⟨tb1, tb2⟩ := tot_bd C B us
  have hQ := fun W' k (h : Ext w2 W') hk => Quantile_c s g C B L _ W' (hK.ext h) k hk _ hT
  have hWy := fun W' k (h : Ext w2 W') hk => Way_c s g C B L _ W' (hK.ext h) k hk _ hT
  have hTo := fun W' (h : Ext w2 W') => KTotal_c s g C B L _ W' (hK.ext h)
  generalize (feedK C (fus us 0 60) B).getD 0 0 = T at *
  have HQ := Lib.hid hQ
  have HWy := Lib.hid hWy
  clear hQ hWy hT hK
  go_upto_region 5 with (fail)
  obtain ⟨w3, hw3⟩ : ∃ w3, w2.alloc (.cells #[.int .i64 C.bits, .int .i64 C.rows, .int .i64 C.width, .int .i64 C.mode, .int .u64 C.seed] 24) = w3 := ⟨_, rfl⟩
  have hE3 : Ext w2 w3 := by rw [← hw3]; exact Ext.alloc' _ _
  have hC3 : CfgAt w3 w2.heap.size C := by rw [← hw3]; exact CfgAt.box C _ rfl
  rw [hw3]
  clear hw3
  go_wp2_with fail
  refine (hTo _ (hE3.trans' (by (repeat' (first | exact Ext.refl _ | assumption | apply Ext.allocR | apply Ext.drewR | apply Ext.drewNR | (refine Ext.trans' ?_ (by assumption))))))).mono ?_
  rintro e w4 ⟨rfl, hx4⟩
  have hE4 : Ext w3 w4 := by (repeat' (first | exact Ext.refl _ | assumption | apply Ext.allocR | apply Ext.drewR | apply Ext.drewNR | (refine Ext.trans' ?_ (by assumption))))
  clear hx4
  by_cases hz : T < 1
  · go_wp2
    go_ret
    exact ⟨rfl, hE2.trans' (hE3.trans' hE4)⟩
  go_wp2_with fail
  refine (hTo _ (hE3.trans' (hE4.trans' (by (repeat' (first | exact Ext.refl _ | assumption | apply Ext.allocR | apply Ext.drewR | apply Ext.drewNR | (refine Ext.trans' ?_ (by assumption)))))))).mono ?_
  rintro e w5 ⟨rfl, hx5⟩
  have hE5 : Ext w3 w5 := hE4.trans' (by (repeat' (first | exact Ext.refl _ | assumption | apply Ext.allocR | apply Ext.drewR | apply Ext.drewNR | (refine Ext.trans' ?_ (by assumption)))))
  clear hx5 hE4 hTo
  have a1 := and62i ka
  obtain ⟨r1, r2⟩ := rank_bd (x := ka) (T := T) (by omega)
  have hzT : (T == 0) = false := by simp; omega
  go_upto_region 8 with (fail)
  generalize hA : 1 + ka % 4611686018427387904 % T = A at *
  have hA1 : 1 ≤ A := by omega
  have hA2 : A ≤ T := by omega
  clear a1 r1 r2 hzT hA
  go_wp2_with fail
  refine (HWy.out _ _ (hE3.trans' (hE5.trans' (by (repeat' (first | exact Ext.refl _ | assumption | apply Ext.allocR | apply Ext.drewR | apply Ext.drewNR | (refine Ext.trans' ?_ (by assumption))))))) (by unfold I64; omega)).mono ?_
  rintro e w6 hp
  obtain ⟨_, v6, base, rfl, hbs, ho, hx6⟩ := hp.resolve_left (fun h => by have := h.1; omega)
  obtain ⟨g6, c6, rfl, hg6, hp6⟩ := own_pieces ho (by rw [wayP_len]; omega)
  have hE6 : Ext w3 w6 := hE5.trans' (by (repeat' (first | exact Ext.refl _ | assumption | apply Ext.allocR | apply Ext.drewR | apply Ext.drewNR | (refine Ext.trans' ?_ (by assumption)))))
  rw [wayP_len]
  have hlen := wayP_len (ptK C B us) B A
  have hst : ∀ j : Nat, j < B → ((wayP (ptK C B us) B A).getD (j + 1) (0, 0)).2 / 2 = ((wayP (ptK C B us) B A).getD j (0, 0)).2 ∧ 0 ≤ ((wayP (ptK C B us) B A).getD (j + 1) (0, 0)).2 := way_step (ptK C B us) B 0 A (Int.le_refl 0)
  have hlv : ∀ j : Nat, j ≤ B → ((wayP (ptK C B us) B A).getD j (0, 0)).1 + j = B := way_lev (ptK C B us) B 0 A
  have hla : (wayP (ptK C B us) B A).getD B (0, 0) = (0, wayI (ptK C B us) B 0 A) := way_last (ptK C B us) B 0 A
  have hfi : (wayP (ptK C B us) B A).getD 0 (0, 0) = (B, 0) := rfl
  have hub : ∀ j : Nat, j ≤ B → ((wayP (ptK C B us) B A).getD j (0, 0)).2 ≤ 576460752303423488 := fun j hj => by
    have h1 := way_bd (ptK C B us) B 0 A j (Int.le_refl 0) hj
    have h2 := pow_bd j (by omega)
    have h3 : ((wayP (ptK C B us) B A).getD j (0, 0)).2 < (0 + 1) * 2 ^ j := h1
    omega
  have HUB := Lib.hid hub
  clear hub
  have HLEN := Lib.hid hlen
  have HST := Lib.hid hst
  have HLV := Lib.hid hlv
  have HLA := Lib.hid hla
  have HFI := Lib.hid hfi
  have HP6 := Lib.hid hp6
  clear hx6 hp hE5 ho hbs hlen hst hlv hla hfi hp6 HWy
  generalize wayP (ptK C B us) B A = dn at *
  go_wp2_with fail
  refine (HQ.out _ _ (hE3.trans' (hE6.trans' (by (repeat' (first | exact Ext.refl _ | assumption | apply Ext.allocR | apply Ext.drewR | apply Ext.drewNR | (refine Ext.trans' ?_ (by assumption))))))) (by unfold I64; omega)).mono ?_
  rintro e w7 hp
  obtain ⟨_, rfl, hx7⟩ := hp.resolve_left (fun h => by have := h.1; omega)
  have hE67 : Ext w6 w7 := by (repeat' (first | exact Ext.refl _ | assumption | apply Ext.allocR | apply Ext.drewR | apply Ext.drewNR | (refine Ext.trans' ?_ (by assumption))))
  have hE7 : Ext w3 w7 := hE6.trans' hE67
  have hp7 := HP6.out.ext hg6 hE67
  have hg7 : g6 < w7.heap.size := Nat.lt_of_lt_of_le hg6 hE67.size
  clear hx7 hp HQ hE67 HP6 hE6 hg6
  generalize wayI (ptK C B us) B 0 A = key at *
  have hC7 := hC3.ext hE7
  have c0 := hC7.c0
  rw [HB.out] at c0
  have cl := hC7.lt
  obtain ⟨d0, d1⟩ := hp7 0 (by rw [HLEN.out]; omega)
  rw [HFI.out] at d0 d1
  simp only [Nat.zero_mul, Nat.add_zero, Nat.zero_add] at d0 d1
  have HP7 := Lib.hid hp7
  clear hC7 hC3 hp7 hA1 hA2 tb1 tb2 hz
  go_wp2_with fail
  refine wp_region_after (by kernel_rfl) (by kernel_rfl) ?_
  repeat (go_big_quiet_step (fail))
  refine wpQuiet_nil ?_
  rintro _ ⟨xx, rfl⟩
  obtain ⟨w8, hb8⟩ := xx
  try dsimp only
  have hE8 : Ext w3 w8 := hE7.trans' hb8
  have HP8 := Lib.hid (HP7.out.ext hg7 hb8)
  have hg8 : g6 < w8.heap.size := Nat.lt_of_lt_of_le hg7 hb8.size
  clear hb8 HP7 hE7 hg7 c0 cl d0 d1
  go_wp2
  go_loopw [12] (fun u wr => ∃ i : Nat, i ≤ B ∧ u = .int .i64 ((i : Int) + 1) ∧ Ext w8 wr) (fun u _ => B + 1 - (intOf u).toNat)
  case atStart => exact ⟨0, Nat.zero_le _, rfl, Ext.refl _⟩
  case round =>
    obtain ⟨i, hi, rfl, hEr⟩ := hrel
    have hgr : g6 < wr.heap.size := Nat.lt_of_lt_of_le hg8 hEr.size
    by_cases hlt : i < B
    · obtain ⟨d0, d1⟩ := (HP8.out.ext hg8 hEr) i (by rw [HLEN.out]; omega)
      obtain ⟨d2, d3⟩ := (HP8.out.ext hg8 hEr) (i + 1) (by rw [HLEN.out]; omega)
      rw [Nat.zero_add] at d0 d1 d2 d3
      obtain ⟨s1, s2⟩ := HST.out i hlt
      have ub := HUB.out (i + 1) (by omega)
      have v1 := HLV.out i (by omega)
      have v2 := HLV.out (i + 1) (by omega)
      generalize (dn.getD i (0, 0)).1 = la at *
      generalize (dn.getD (i + 1) (0, 0)).1 = lb at *
      generalize (dn.getD i (0, 0)).2 = ia at *
      generalize (dn.getD (i + 1) (0, 0)).2 = ib at *
      obtain rfl : la = lb + 1 := by omega
      have hq : (IntKind.u64.wrap (ib.tdiv 2) != ia) = false := by
        rw [IntKind.wrap_u64, Int.tdiv_eq_ediv_of_nonneg s2]
        simp
        omega
      go_wp2_with fail
      refine wp_region_after (by kernel_rfl) (by kernel_rfl) ?_
      repeat (go_big_quiet_step (fail))
      refine wpQuiet_nil ?_
      rintro _ ⟨xx, rfl⟩
      obtain ⟨w9, hb9⟩ := xx
      try dsimp only
      go_wp2
      go_roundw
      case rel => exact ⟨i + 1, by omega, by go_num, hEr.trans' hb9⟩
      case measure => simp [intOf]; omega
    · obtain rfl : i = B := by omega
      obtain ⟨d0, d1⟩ := (HP8.out.ext hg8 hEr) i (by rw [HLEN.out]; omega)
      rw [HLA.out, Nat.zero_add] at d1
      go_wp2
      go_ret
      exact ⟨rfl, hE2.trans' (hE3.trans' (hE8.trans' hEr))⟩
end Go.Proofs.Ytpnbgoahjoabkaa

/- gaugerref16.Between, walked: what the keys of a span have of updates. -/
namespace Go.Proofs.Ytpnbgoahjoabkaa
set_option linter.unusedVariables false
open Go.RowKit
def inB (lo hi : Int) (u : Int) : Bool := decide (lo ≤ u) && decide (u ≤ hi)
/-- What the keys from lo to hi have of sixty updates. -/
def betK (C : Cfg) (us : List (Int × Int)) (k : Nat) (lo hi : Int) : Int := sumIf (inB lo hi) (stP C 0 (fus us 0 k))
theorem betK_bd (C : Cfg) (us : List (Int × Int)) {k : Nat} (hk : k ≤ 60) (lo hi : Int) : -65970697666560 ≤ betK C us k lo hi ∧ betK C us k lo hi ≤ 65970697666560 := by
  have := sumIf_bnd (inB lo hi) 1099511627776 (by decide) (stP C 0 (fus us 0 k)) (stP_bnd C 0 _)
  have hl := fus_len us 0 k
  rw [stP_len] at this
  unfold betK
  omega
theorem betK_zero (C : Cfg) (us : List (Int × Int)) (lo hi : Int) : betK C us 0 lo hi = 0 := by unfold betK; rw [fus_self]; rfl
theorem betK_succ (C : Cfg) (us : List (Int × Int)) {k : Nat} (hk : k < us.length) (lo hi : Int) :
    betK C us (k + 1) lo hi = betK C us k lo hi + (bif inB lo hi (cutK C 0 us[k].1) then cutD C.mode us[k].2 else 0) := by
  have hget : us.getD k (0, 0) = us[k] := by simp [hk]
  unfold betK
  rw [fus_snoc us (Nat.zero_le k) hk, stP_snoc, hget, sh_zero]
  exact sumIf_snoc _ _ _
set_option maxRecDepth 20000 in
set_option maxHeartbeats 4000000 in
theorem Between16_c (us : List (Int × Int)) (hus : UpsOk us) (v : Value) (C : Cfg) (hok : C.Ok) (lo hi : Int) (hlo : U64 lo) (hhi : U64 hi) (w : World) (hv : UpsAt w v us) (hul : us.length ≤ 140737488355328) :
    Calls Try.prog 75 #[.agg #[.int .i64 C.bits, .int .i64 C.rows, .int .i64 C.width, .int .i64 C.mode, .int .u64 C.seed], v, .int .u64 lo, .int .u64 hi] w
      fun e w' => e = .returned (.int .i64 (betK C us 60 lo hi)) ∧ Ext w w' := by
  obtain ⟨vp, vc, rfl⟩ := hv.sl
  have HV := Lib.hid hv
  clear hv
  go_enter Try.func75, Try.ntmps75
  go_wp2_with fail
  go_loopw [9, 10] (fun u7 u8 wr => ∃ k : Nat, k ≤ 60 ∧ k ≤ us.length ∧ u7 = .int .i64 (betK C us k lo hi) ∧ u8 = .int .i64 k ∧ Ext w wr ∧ CfgAt wr w.heap.size C) (fun _ u8 _ => 60 - (intOf u8).toNat)
  case atStart =>
    exact ⟨0, Nat.zero_le _, Nat.zero_le _, by rw [betK_zero], rfl, by (repeat' (first | exact Ext.refl _ | assumption | apply Ext.allocR | apply Ext.drewR | apply Ext.drewNR | (refine Ext.trans' ?_ (by assumption)))), CfgAt.box C _ rfl⟩
  case round =>
    obtain ⟨k, hk60, hkl, rfl, rfl, hE, hC⟩ := hrel
    have l1 := hC.lt
    obtain ⟨hsb1, hsb2⟩ := betK_bd C us hk60 lo hi
    by_cases hgo : k < us.length ∧ k < 60
    · obtain ⟨hg1, hg2⟩ := hgo
      obtain ⟨ug, off, rfl, hul0, d0, d1⟩ := (UpsAt.ext HV.out hE).one hg1
      have hu := hus _ (List.getElem_mem hg1)
      have hsn := betK_succ C us hg1 lo hi
      have c0 := hC.c0
      have c1 := hC.c1
      have c2 := hC.c2
      have c3 := hC.c3
      have c4 := hC.c4
      generalize us[k] = uu at *
      obtain ⟨uk, ud⟩ := uu
      generalize betK C us k lo hi = s at *
      have HSN := Lib.hid hsn
      have HC := Lib.hid hC
      clear hsn hC
      go_upto_region 5 with (fail)
      go_cut [11] (fun s11 wx => ∃ bu : Nat, s11 = .pointer (some ⟨bu, 0, none⟩) ∧ wx.heap[bu]? = some (.cells #[.int .u64 (cutK C 0 uk), .int .i64 (cutD C.mode ud)] 38 (0, 0)) ∧ Ext wr wx ∧ wr.heap.size ≤ bu)
      case first =>
        have hC0 := af_drew wr
        refine pi_start (fun w' => ∃ x : After wr, w' = x.w) [] (by kernel_rfl) ?_
        refine pi_c 0 (by assumption) rfl (by kernel_rfl) (by kernel_rfl) (fun _ _ _ _ h => h) (fun K hK => ?_)
        go_big_quiet_op
        refine hK _ ?_
        clear hK K
        refine pi_t 1 rfl (by kernel_rfl) (by kernel_rfl) (fun _ _ _ _ h => h) (fun K hK => ?_)
        go_big_quiet_op
        refine hK _ ?_
        clear hK K
        refine pi_t 2 rfl (by kernel_rfl) (by kernel_rfl) (fun _ _ _ _ h => h) (fun K hK => ?_)
        go_big_quiet_op
        refine hK _ ?_
        clear hK K
        refine pi_t 3 rfl (by kernel_rfl) (by kernel_rfl) (fun _ _ _ _ h => h) (fun K hK => ?_)
        go_big_quiet_op
        refine hK _ ?_
        clear hK K
        refine pi_c 4 (by assumption) rfl (by kernel_rfl) (by kernel_rfl) (fun _ _ _ _ h => h) (fun K hK => ?_)
        go_big_quiet_op
        refine hK _ ?_
        clear hK K
        refine pi_b 5 6 rfl rfl (by kernel_rfl) (fun K hK => ?_) (fun K hK => ?_)
        · go_wp2_with (go_at_call 50; refine (Cut15_c C hok uk ud hu.1 hu.2 _).mono ?_; rintro e w3 ⟨rfl, hx3⟩)
          have hx3' : Ext wr w3 := Ext.trans' (Below.drew (Ext.refl wr)) hx3
          have hs3 := hx3'.size
          refine hK _ _ (fun _ h => af_step h hx3) ?_
          clear hK K
          refine pi_l 6 rfl (by kernel_rfl) (fun K hK => ?_)
          go_wp2
          refine hK _ _ (fun _ h => af_step h (Ext.alloc' _ _)) ?_
          clear hK K
          refine pi_l 7 rfl (by kernel_rfl) (fun K hK => ?_)
          go_wp2
          refine hK _ _ (fun _ _ => ⟨⟨_, hx3'.allocR _⟩, rfl⟩) ?_
          clear hK K
          refine pi_end (by kernel_rfl) ?_
          go_wp2_with fail
          go_meet
          exact ⟨w3.heap.size, rfl, heap_at _ _ rfl, hx3'.allocR _, hs3⟩
        · go_wp2
          refine hK _ _ (fun _ h => af_step h (Ext.alloc' _ _)) ?_
          clear hK K
          refine pi_l 5 rfl (by kernel_rfl) (fun K hK => ?_)
          go_wp2_with (go_at_call 50; refine (Cut15_c C hok uk ud hu.1 hu.2 _).mono ?_; rintro e w3 ⟨rfl, hx3⟩)
          refine hK _ _ (fun _ h => af_step h hx3) ?_
          clear hK K
          have hs3 : (wr.alloc (.cells #[.int .u64 0, .int .i64 0] 38)).heap.size ≤ w3.heap.size := hx3.size
          rw [size_alloc] at hs3
          have hx3' : Ext wr w3 := Ext.trans' (Ext.alloc' wr _) (Ext.trans' (Below.drew (Ext.refl _)) hx3)
          have hbx : w3.heap[wr.heap.size]? = some (.cells #[.int .u64 0, .int .i64 0] 38 (0, 0)) := by
            rw [hx3.block _ (by show _ < (wr.alloc _).heap.size; rw [size_alloc]; exact Nat.lt_succ_self _)]
            exact heap_at wr _ rfl
          have p0 := (cell_of hbx 0).trans rfl
          have p1 := (cell_of hbx 1).trans rfl
          have f0 := frozen_of hbx 0
          have f1 := frozen_of hbx 1
          refine pi_l 7 rfl (by kernel_rfl) (fun K hK => ?_)
          go_wp2
          refine hK _ _ (fun _ _ => ⟨⟨_, (hx3'.setR (Nat.le_refl _) _).setR (Nat.le_refl _) _⟩, rfl⟩) ?_
          clear hK K
          refine pi_end (by kernel_rfl) ?_
          go_wp2_with fail
          go_meet
          exact ⟨wr.heap.size, rfl, set2 hbx _ _, (hx3'.setR (Nat.le_refl _) _).setR (Nat.le_refl _) _, Nat.le_refl _⟩
      case rest =>
        obtain ⟨bu, rfl, hbu, hxw, hbul⟩ := hcut
        have hdb := cutD_bd C.mode ud
        have b1 := (cell_of hbu 1).trans rfl
        have b0 := (cell_of hbu 0).trans rfl
        have hE' : Ext w wc := hE.trans' hxw
        have hC' := HC.out.ext hxw
        clear d0 d1 c0 c1 c2 c3 c4 hE hxw
        have hkk0 := (cutK_bd C hok 0 uk (Int.le_refl 0)).1
        generalize cutK C 0 uk = kk at *
        generalize cutD C.mode ud = dd at *
        by_cases h1 : lo ≤ kk
        · by_cases h2 : kk ≤ hi
          · have g1 : inB lo hi kk = true := by unfold inB; rw [decide_eq_true h1, decide_eq_true h2]; rfl
            have hs' := HSN.out
            rw [g1] at hs'
            have HS := Lib.hid hs'
            clear hs' HSN g1
            go_wp2_with fail
            go_roundw
            case rel => exact ⟨k + 1, by omega, by omega, by rw [HS.out]; rfl, by go_num, hE', hC'⟩
            case measure => simp [intOf]; omega
          · have g1 : inB lo hi kk = false := by unfold inB; rw [decide_eq_true h1, decide_eq_false h2]; rfl
            have hs' := HSN.out
            rw [g1] at hs'
            have HS := Lib.hid hs'
            clear hs' HSN g1
            go_wp2_with fail
            go_roundw
            case rel => exact ⟨k + 1, by omega, by omega, by rw [HS.out]; exact congrArg _ (Int.add_zero _).symm, by go_num, hE', hC'⟩
            case measure => simp [intOf]; omega
        · have g1 : inB lo hi kk = false := by unfold inB; rw [decide_eq_false h1]; rfl
          have hs' := HSN.out
          rw [g1] at hs'
          have HS := Lib.hid hs'
          clear hs' HSN g1
          go_wp2_with fail
          go_roundw
          case rel => exact ⟨k + 1, by omega, by omega, by rw [HS.out]; exact congrArg _ (Int.add_zero _).symm, by go_num, hE', hC'⟩
          case measure => simp [intOf]; omega
    · have hfe := fus_end us (i := 0) (j := 60) (k := k) (by omega) (by omega) (.inr ⟨hk60, hkl⟩) hgo
      have hfe' : betK C us k lo hi = betK C us 60 lo hi := by unfold betK; rw [hfe]
      rw [hfe']
      go_wp2_with fail
      all_goals
        go_ret
        exact ⟨rfl, hE⟩
end Go.Proofs.Ytpnbgoahjoabkaa

/- Plain law: what the way to a rank's key tells. -/
namespace Go.Proofs.Ytpnbgoahjoabkaa
set_option linter.unusedVariables false
open Go.RowKit
/-- What is too much on the first pieces of a way. -/
def oS (pt S : Nat → Int → Int) : List (Nat × Int) → Nat → Int
  | _, 0 => 0
  | [], _ + 1 => 0
  | p :: l, j + 1 => (pt (p.1 - 1) (2 * p.2) - S (p.1 - 1) (2 * p.2)) + oS pt S l j
theorem oS_zero (pt S : Nat → Int → Int) (l : List (Nat × Int)) : oS pt S l 0 = 0 := by cases l <;> rfl
theorem oS_snoc (pt S : Nat → Int → Int) : ∀ (l : List (Nat × Int)) (j : Nat), j < l.length → oS pt S l (j + 1) = oS pt S l j + (pt ((l.getD j (0, 0)).1 - 1) (2 * (l.getD j (0, 0)).2) - S ((l.getD j (0, 0)).1 - 1) (2 * (l.getD j (0, 0)).2))
  | [], j, h => by simp at h
  | p :: l, 0, h => by
    show (_ + oS pt S l 0) = 0 + _
    rw [oS_zero]
    simp
  | p :: l, j + 1, h => by
    show _ + oS pt S l (j + 1) = (_ + oS pt S l j) + _
    rw [oS_snoc pt S l j (by simpa using h)]
    simp only [List.getD_cons_succ]
    omega
theorem oS_bd {pt S : Nat → Int → Int} (h1 : ∀ n i, -65970697666560 ≤ pt n i ∧ pt n i ≤ 65970697666560) (h2 : ∀ n i, -65970697666560 ≤ S n i ∧ S n i ≤ 65970697666560) : ∀ (l : List (Nat × Int)) (j : Nat), -131941395333120 * (j : Int) ≤ oS pt S l j ∧ oS pt S l j ≤ 131941395333120 * (j : Int)
  | l, 0 => by rw [oS_zero]; simp
  | [], j + 1 => by show _ ≤ (0 : Int) ∧ (0 : Int) ≤ _; omega
  | p :: l, j + 1 => by
    have := oS_bd h1 h2 l j
    have a := h1 (p.1 - 1) (2 * p.2)
    have b := h2 (p.1 - 1) (2 * p.2)
    show _ ≤ (_ - _) + oS pt S l j ∧ (_ - _) + oS pt S l j ≤ _
    omega
theorem oS_way (pt S : Nat → Int → Int) : ∀ (n : Nat) (i k : Int), oS pt S ((n, i) :: wayL pt n i k) n = wayO pt S n i k
  | 0, _, _ => rfl
  | n + 1, i, k => by
    rw [wayL_succ]
    show (pt (n + 1 - 1) (2 * i) - S (n + 1 - 1) (2 * i)) + oS pt S _ n = _
    unfold wayO
    rw [Nat.add_sub_cancel]
    split
    · rw [oS_way pt S n]
    · rw [oS_way pt S n]
theorem psU_in {C : Cfg} (hok : C.Ok) (us : List (Int × Int)) : ∀ u ∈ psU C us, 0 ≤ u.1 ∧ u.1 < keys C 0 := by
  intro u hu
  simp only [psU, stP, List.mem_map] at hu
  obtain ⟨p, _, rfl⟩ := hu
  rw [show ((sh 0 (cutK C 0 p.1), cutD C.mode p.2) : Int × Int).1 = cutK C 0 p.1 from sh_zero _]
  exact cutK_bd C hok 0 p.1 (Int.le_refl 0)
theorem sh_top {C : Cfg} {B : Nat} (hB : C.bits = B) {u : Int} (h0 : 0 ≤ u) (h1 : u < keys C 0) : sh B u = 0 := by
  have : keys C 0 = 2 ^ B := by unfold keys; rw [hB]; congr 1
  rw [this] at h1
  unfold sh
  exact Int.ediv_eq_zero_of_lt h0 h1
theorem bet_up {C : Cfg} (hok : C.Ok) {B : Nat} (hB : C.bits = B) (us : List (Int × Int)) (x : Int) : betK C us 60 0 x = upS (psU C us) B 0 x := by
  refine sumIf_congr fun u hu => ?_
  obtain ⟨a, b⟩ := psU_in hok us u hu
  have hs := sh_top hB a b
  unfold inB
  rw [hs, decide_eq_true a]
  rfl
theorem up_lo {C : Cfg} (hok : C.Ok) {B : Nat} (hB : C.bits = B) (us : List (Int × Int)) (x : Int) : upS (psU C us) B 0 x = loS (psU C us) B 0 x + pcS (psU C us) 0 x := by
  unfold upS loS pcS
  rw [sumIf_split _ (fun u => decide (u < x)) (psU C us)]
  congr 1
  · refine sumIf_congr fun u hu => ?_
    obtain ⟨a, b⟩ := psU_in hok us u hu
    rw [sh_top hB a b, Bool.eq_iff_iff]
    simp only [Bool.and_eq_true, beq_iff_eq, decide_eq_true_eq, true_and]
    omega
  · refine sumIf_congr fun u hu => ?_
    obtain ⟨a, b⟩ := psU_in hok us u hu
    rw [sh_top hB a b, sh_zero, Bool.eq_iff_iff]
    simp only [Bool.and_eq_true, beq_iff_eq, decide_eq_true_eq, Bool.not_eq_true', decide_eq_false_iff_not, true_and]
    omega
theorem wayI_key {C : Cfg} {B : Nat} (hB : C.bits = B) (pt : Nat → Int → Int) (k : Int) : 0 ≤ wayI pt B 0 k ∧ wayI pt B 0 k < keys C 0 := by
  have h1 := way_bd pt B 0 k B (Int.le_refl 0) (Nat.le_refl _)
  rw [way_last] at h1
  have h1' : wayI pt B 0 k < (0 + 1) * 2 ^ B := h1
  have hs := wayI_sh pt B 0 k
  have : keys C 0 = 2 ^ B := by unfold keys; rw [hB]; congr 1
  refine ⟨?_, by rw [this]; omega⟩
  unfold sh at hs
  have hp : (0 : Int) < 2 ^ B := Int.pow_pos (by decide)
  rcases Int.lt_or_le (wayI pt B 0 k) 0 with h | h
  · have := Int.ediv_neg_of_neg_of_pos h hp
    omega
  · exact h
/-- All keys below the answer have less than the rank; the rank is not more than what all up to it have, and what is too much. -/
theorem qb_law {C : Cfg} (hok : C.Ok) {B : Nat} (hB : C.bits = B) {us : List (Int × Int)} (hus : UpsOk us) (hm : C.mode ≠ 3) (hp : plK C us 60 = true) {A : Int} (h1 : 1 ≤ A) (h2 : A ≤ hasK C us 60 B 0) :
    betK C us 60 0 (wayI (ptK C B us) B 0 A) - hasK C us 60 0 (wayI (ptK C B us) B 0 A) < A ∧
    A ≤ betK C us 60 0 (wayI (ptK C B us) B 0 A) + oS (ptK C B us) (pcS (psU C us)) (wayP (ptK C B us) B A) B ∧
    0 ≤ oS (ptK C B us) (pcS (psU C us)) (wayP (ptK C B us) B A) B := by
  have hge := ptK_ge hok hB hus hm hp
  have a := way_below hge B 0 A (Int.le_refl 0) h1
  rw [hasK_pc] at h2
  have b := way_upto hge B 0 A 0 (Int.le_refl 0) (Int.le_refl 0) (by omega)
  have c := wayO_nn hge B 0 A (Int.le_refl 0)
  have d : oS (ptK C B us) (pcS (psU C us)) (wayP (ptK C B us) B A) B = wayO (ptK C B us) (pcS (psU C us)) B 0 A := oS_way _ _ _ _ _
  have e := up_lo hok hB us (wayI (ptK C B us) B 0 A)
  have f := bet_up hok hB us (wayI (ptK C B us) B 0 A)
  rw [d, hasK_pc, f]
  omega
end Go.Proofs.Ytpnbgoahjoabkaa

/- gaugerref15.Plain, walked: has no key less than 0? -/
namespace Go.Proofs.Ytpnbgoahjoabkaa
set_option linter.unusedVariables false
open Go.RowKit
theorem Has15_zero (us : List (Int × Int)) (hus : UpsOk us) (v : Value) (C : Cfg) (hok : C.Ok) (j : Int) (hj : U64 j) (w : World) (hv : UpsAt w v us) (hul : us.length ≤ 140737488355328) :
    Calls Try.prog 55 #[.agg #[.int .i64 C.bits, .int .i64 C.rows, .int .i64 C.width, .int .i64 C.mode, .int .u64 C.seed], v, .agg #[.int .i64 0, .int .u64 j]] w
      fun e w' => e = .returned (.int .i64 (hasK C us 60 0 j)) ∧ Ext w w' := Has15_c us hus v C hok 0 (by decide) j hj w hv hul
@[go_sem] theorem fld_key (k d : Int) (w : World) : (Instr.field 38 (.agg #[.int .u64 k, .int .i64 d]) 0).run Try.prog w = .ok (.int .u64 k) w := by kernel_rfl
set_option maxRecDepth 20000 in
set_option maxHeartbeats 4000000 in
theorem Plain15_c (us : List (Int × Int)) (hus : UpsOk us) (v : Value) (C : Cfg) (hok : C.Ok) (w : World) (hv : UpsAt w v us) (hul : us.length ≤ 140737488355328) :
    Calls Try.prog 57 #[.agg #[.int .i64 C.bits, .int .i64 C.rows, .int .i64 C.width, .int .i64 C.mode, .int .u64 C.seed], v] w
      fun e w' => e = .returned (.bool (plK C us 60)) ∧ Ext w w' := by
  obtain ⟨vp, vc, rfl⟩ := hv.sl
  have HV := Lib.hid hv
  clear hv
  go_enter Try.func57, Try.ntmps57
  go_wp2_with fail
  go_loopw [5] (fun u5 wr => ∃ k : Nat, k ≤ 60 ∧ k ≤ us.length ∧ u5 = .int .i64 k ∧ plK C us k = true ∧ Ext w wr ∧ CfgAt wr w.heap.size C) (fun u5 _ => 60 - (intOf u5).toNat)
  case atStart =>
    exact ⟨0, Nat.zero_le _, Nat.zero_le _, rfl, plK_zero C us, by (repeat' (first | exact Ext.refl _ | assumption | apply Ext.allocR | apply Ext.drewR | apply Ext.drewNR | (refine Ext.trans' ?_ (by assumption)))), CfgAt.box C _ rfl⟩
  case round =>
    obtain ⟨k, hk60, hkl, rfl, hp, hE, hC⟩ := hrel
    have l1 := hC.lt
    by_cases hgo : k < us.length ∧ k < 60
    · obtain ⟨hg1, hg2⟩ := hgo
      have hvw := UpsAt.ext HV.out hE
      obtain ⟨ug, off, rfl, hul0, d0, d1⟩ := hvw.one hg1
      have hu := hus _ (List.getElem_mem hg1)
      have hps := plK_succ C us hg1
      have hend : ∀ b, plK C us (k + 1) = false → plK C us 60 = b → b = false := by
        intro b h1 h2
        rw [← h2]
        unfold plK at *
        rw [List.all_eq_false] at *
        obtain ⟨u, hu, hn⟩ := h1
        exact ⟨u, List.mem_of_mem_take (i := k + 1) (by rw [List.take_take, Nat.min_eq_left (by omega)]; exact hu), hn⟩
      rw [hp, Bool.true_and] at hps
      have c0 := hC.c0
      have c1 := hC.c1
      have c2 := hC.c2
      have c3 := hC.c3
      have c4 := hC.c4
      generalize us[k] = uu at *
      obtain ⟨uk, ud⟩ := uu
      have hkb := cutK_bd C hok 0 uk (Int.le_refl 0)
      have hkp := keys_bd C hok 0 (Int.le_refl 0)
      have hkU : U64 (cutK C 0 uk) := by unfold U64; omega
      obtain ⟨hsb1, hsb2⟩ := hasK_bd C us (Nat.le_refl 60) 0 (cutK C 0 uk)
      have hCut : ∀ W', Calls Try.prog 50 #[.agg #[.int .i64 C.bits, .int .i64 C.rows, .int .i64 C.width, .int .i64 C.mode, .int .u64 C.seed], .agg #[.int .u64 uk, .int .i64 ud]] W' fun e w' => e = .returned (.agg #[.int .u64 (cutK C 0 uk), .int .i64 (cutD C.mode ud)]) ∧ Ext W' w' := fun W' => Cut15_c C hok uk ud hu.1 hu.2 W'
      have hHas : ∀ W', Ext wr W' → Calls Try.prog 55 #[.agg #[.int .i64 C.bits, .int .i64 C.rows, .int .i64 C.width, .int .i64 C.mode, .int .u64 C.seed], .slice (some ⟨ug, off, none⟩) us.length vc, .agg #[.int .i64 0, .int .u64 (cutK C 0 uk)]] W' fun e w' => e = .returned (.int .i64 (hasK C us 60 0 (cutK C 0 uk))) ∧ Ext W' w' := fun W' h => Has15_zero us hus _ C hok _ hkU _ (hvw.ext h) hul
      generalize hasK C us 60 0 (cutK C 0 uk) = hh at *
      generalize cutK C 0 uk = kk at *
      generalize cutD C.mode ud = dd at *
      have HC := Lib.hid hC
      have HPS := Lib.hid hps
      have HEND := Lib.hid hend
      clear hC hps hend hp hvw hkb hkp
      by_cases hneg : hh < 0
      · have g1 : decide (hh < 0) = true := decide_eq_true hneg
        go_wp2_with fail
        refine wp_region_after (by kernel_rfl) (by kernel_rfl) ?_
        repeat (go_big_quiet_step ((first | (go_at_call 50; with_reducible exact quiet_after (hCut _)) | (go_at_call 55; with_reducible exact quiet_after (hHas _ (After.h _))))))
        refine wpQuiet_nil ?_
        rintro _ ⟨xx, rfl⟩
        obtain ⟨w7, hb7⟩ := xx
        try dsimp only
        go_wp2
        go_ret
        exact ⟨by rw [HEND.out _ (by rw [HPS.out]; exact decide_eq_false (by omega)) rfl]; rfl, hE.trans' (by (repeat' (first | exact Ext.refl _ | assumption | apply Ext.allocR | apply Ext.drewR | apply Ext.drewNR | (refine Ext.trans' ?_ (by assumption)))))⟩
      · have g1 : decide (hh < 0) = false := decide_eq_false hneg
        go_wp2_with fail
        refine wp_region_after (by kernel_rfl) (by kernel_rfl) ?_
        repeat (go_big_quiet_step ((first | (go_at_call 50; with_reducible exact quiet_after (hCut _)) | (go_at_call 55; with_reducible exact quiet_after (hHas _ (After.h _))))))
        refine wpQuiet_nil ?_
        rintro _ ⟨xx, rfl⟩
        obtain ⟨w7, hb7⟩ := xx
        try dsimp only
        go_wp2
        go_roundw
        case rel => exact ⟨k + 1, by omega, by omega, by go_num, by rw [HPS.out]; exact decide_eq_true (by omega), hE.trans' (by (repeat' (first | exact Ext.refl _ | assumption | apply Ext.allocR | apply Ext.drewR | apply Ext.drewNR | (refine Ext.trans' ?_ (by assumption))))), HC.out.ext (by (repeat' (first | exact Ext.refl _ | assumption | apply Ext.allocR | apply Ext.drewR | apply Ext.drewNR | (refine Ext.trans' ?_ (by assumption)))))⟩
        case measure => simp [intOf]; omega
    · have hfe := plK_end C us hk60 hkl hgo
      rw [hp] at hfe
      have HFE := Lib.hid hfe
      clear hfe hp
      by_cases hg1 : k < us.length
      · have hg2 : ¬ k < 60 := fun h => hgo ⟨hg1, h⟩
        go_wp2_with fail
        go_ret
        exact ⟨by rw [← HFE.out]; rfl, hE⟩
      · go_wp2_with fail
        go_ret
        exact ⟨by rw [← HFE.out]; rfl, hE⟩
end Go.Proofs.Ytpnbgoahjoabkaa

/- gaugerlaw15.StackOver, walked. -/
namespace Go.Proofs.Ytpnbgoahjoabkaa
set_option linter.unusedVariables false
open Go.RowKit
theorem and1i (x : Int) : bits BinOp.and IntKind.i64 x 1 = x % 2 := by
  show IntKind.i64.wrap ((BitVec.ofInt 64 x &&& BitVec.ofInt 64 1).toNat : Int) = _
  have e1 : (BitVec.ofInt 64 (1 : Int)).toNat = 2 ^ 1 - 1 := by decide
  rw [BitVec.toNat_and, e1, Nat.and_two_pow_sub_one_eq_mod, BitVec.toNat_ofInt, IntKind.wrap_i64]
  have : (x % ((2 ^ 64 : Nat) : Int)).toNat % 2 ^ 1 < 2 := Nat.mod_lt _ (by decide)
  omega
theorem kcfg_mode (x : Cfg) (nb : Int) {m : Int} (h : 0 < m) : (kcfg x nb m).mode = m := (kcfg_pos x nb h).2.2.2.2.symm
set_option maxRecDepth 20000 in
set_option maxHeartbeats 8000000 in
theorem OverL_c (x : Cfg) (hx : x.Raw) (lv : Int) (hlv : I64 lv) (key : Int) (hkey : U64 key) (us : List (Int × Int)) (hus : UpsOk us) (v : Value) (w : World) (hv : UpsAt w v us) (hul : us.length ≤ 140737488355328) :
    Calls Try.prog 7 #[.agg #[.int .i64 x.bits, .int .i64 x.rows, .int .i64 x.width, .int .i64 x.mode, .int .u64 x.seed, v], .int .i64 lv, .int .u64 key] w fun e w' => e = .returned (.bool true) ∧ Ext w w' := by
  obtain ⟨vp, vc, rfl⟩ := hv.sl
  have HV := Lib.hid hv
  clear hv
  have ha1 := and1i x.mode
  go_enter Try.func7, Try.ntmps7
  go_wp2_with fail
  refine (shownK_c _).mono ?_
  rintro e w1 ⟨rfl, hb1⟩
  have hE1 : Ext w w1 := by (repeat' (first | exact Ext.refl _ | assumption | apply Ext.allocR | apply Ext.drewR | apply Ext.drewNR | (refine Ext.trans' ?_ (by assumption))))
  have hP1 := hb1.keep (heap_at w (.cells #[.int .i64 x.bits, .int .i64 x.rows, .int .i64 x.width, .int .i64 x.mode, .int .u64 x.seed, .slice vp us.length vc] 64) rfl)
  have p0 := (cell_of hP1 0).trans rfl
  have p1 := (cell_of hP1 1).trans rfl
  have p2 := (cell_of hP1 2).trans rfl
  have p3 := (cell_of hP1 3).trans rfl
  have p4 := (cell_of hP1 4).trans rfl
  have p5 := (cell_of hP1 5).trans rfl
  have pl := lt_of hP1
  clear hb1
  obtain ⟨m, hm⟩ : ∃ m : Int, m = if x.mode % 2 = 1 then 2 else 1 := ⟨_, rfl⟩
  go_upto_if 19 with (fail)
  go_cut [8] (fun s8 wx => s8 = .int .i64 m ∧ wx = w1)
  case first =>
    by_cases hmm : x.mode % 2 = 1
    · rw [if_pos hmm] at hm
      subst hm
      go_wp2_with fail
      go_meet
      exact ⟨rfl, rfl⟩
    · rw [if_neg hmm] at hm
      subst hm
      go_wp2_with fail
      go_meet
      exact ⟨rfl, rfl⟩
  case rest =>
   obtain ⟨rfl, rfl⟩ := hcut
   have hm12 : m = 1 ∨ m = 2 := by rw [hm]; split <;> simp
   clear ha1 hm
   have hm0 : 0 < m := by omega
   have hm3 : m ≤ 3 := by omega
   go_wp2_with fail
   refine Calls.mono (fed15_c x hx 10 (by decide) (by decide) m (by omega) hm3 us hus _ 0 60 (by decide) (by decide) _ (HV.out.ext hE1) hul) ?_
   rintro e w2 ⟨s, g, L, rfl, hK, hs, hg, hF, hx2⟩
   have hok := kcfg_ok x hx.s (nb := 10) (m := m) (by decide) (by decide) hm3
   have hmd := kcfg_mode x 10 hm0
   generalize kcfg x 10 m = C at *
   have hmn : C.mode ≠ 3 := by omega
   have hb1 := hok.b1
   have hb2 := hok.b2
   obtain ⟨B, hB⟩ : ∃ B : Nat, C.bits = B := ⟨C.bits.toNat, by omega⟩
   have hBt : C.bits.toNat = B := by omega
   rw [hBt] at hK
   have hE2 : Ext w w2 := by (repeat' (first | exact Ext.refl _ | assumption | apply Ext.allocR | apply Ext.drewR | apply Ext.drewNR | (refine Ext.trans' ?_ (by assumption))))
   have hP2 := hx2.keep hP1
   have HB := Lib.hid hB
   have HU2 := Lib.hid (HV.out.ext hE2)
   clear p0 p1 p2 p3 p4 p5 pl hP1 hx2 hE1 hs hg hF hB hBt hmd hm12 hm0 hm3
   go_upto_region 8 with (fail)
   obtain ⟨w3, hw3⟩ : ∃ w3, w2.alloc (.cells #[.int .i64 C.bits, .int .i64 C.rows, .int .i64 C.width, .int .i64 C.mode, .int .u64 C.seed] 24) = w3 := ⟨_, rfl⟩
   have hx3 : Ext w2 w3 := by rw [← hw3]; exact Ext.alloc' _ _
   have hC3 : CfgAt w3 w2.heap.size C := by rw [← hw3]; exact CfgAt.box C _ rfl
   rw [hw3]
   clear hw3
   have hE3 := hE2.trans' hx3
   have hP3 := hx3.keep hP2
   have hK3 := hK.ext hx3
   have HU3 := Lib.hid (HU2.out.ext hx3)
   have c0 := hC3.c0
   have c1 := hC3.c1
   have c2 := hC3.c2
   have c3 := hC3.c3
   have c4 := hC3.c4
   have cl := hC3.lt
   have p5 := (cell_of hP3 5).trans rfl
   have pl := lt_of hP3
   clear hK hP2 hE2 hx3 HU2
   go_wp2_with fail
   refine (Plain15_c us hus _ C hok _ HU3.out hul).mono ?_
   rintro e wq ⟨rfl, hxq⟩
   have hEq := hE3.trans' hxq
   cases hpl : plK C us 60 with
   | false =>
     clear hpl
     go_wp2_with fail
     go_ret
     exact ⟨rfl, hEq⟩
   | true =>
    have hPq := hxq.keep hP3
    have hKq := hK3.ext hxq
    have hCq := hC3.ext hxq
    have HUq := Lib.hid (HU3.out.ext hxq)
    clear c0 c1 c2 c3 c4 cl p5 pl hC3 hK3 hP3 hE3 HU3 hxq
    have c0 := hCq.c0
    have c1 := hCq.c1
    have c2 := hCq.c2
    have c3 := hCq.c3
    have c4 := hCq.c4
    have cl := hCq.lt
    have k0 := Int.emod_nonneg (lv % 65536) (show (B : Int) + 1 ≠ 0 by omega)
    have k1 := Int.emod_lt_of_pos (lv % 65536) (show 0 < (B : Int) + 1 by omega)
    obtain ⟨n, hn⟩ : ∃ n : Nat, lv % 65536 % ((B : Int) + 1) = n := ⟨_, (Int.toNat_of_nonneg k0).symm⟩
    have hnB : n ≤ B := by omega
    have HN := Lib.hid hn
    have HPL := Lib.hid hpl
    clear hn k0 k1 hpl
    have hla := and16 lv
    have hkp := keys_bd C hok 0 (Int.le_refl 0)
    have hkm0 := Int.emod_nonneg key (show keys C 0 ≠ 0 by omega)
    have hkm1 := Int.emod_lt_of_pos key (show 0 < keys C 0 by omega)
    have hkz : (keys C 0 == 0) = false := by simp; omega
    go_upto_region 10 with (fail)
    go_cut [1] (fun s1 wx => s1 = .int .i64 n ∧ wx = wq)
    case first =>
      go_wp2
      go_meet
      exact ⟨by rw [HB.out, HN.out], rfl⟩
    case rest =>
      obtain ⟨rfl, rfl⟩ := hcut
      go_wp2_with fail
      refine (KeysR_c C hok 0 (Int.le_refl 0) (by omega) _).mono ?_
      rintro e w4 ⟨rfl, hx4⟩
      have hE4 := hEq.trans' hx4
      have hP4 := hx4.keep hPq
      have hK4 := hKq.ext hx4
      have hC4 := hCq.ext hx4
      have HU4 := Lib.hid (HUq.out.ext hx4)
      have p5 := (cell_of hP4 5).trans rfl
      have pl := lt_of hP4
      clear c0 c1 c2 c3 c4 cl hCq hKq hPq hEq HUq hla
      have c0 := hC4.c0
      have c1 := hC4.c1
      have c2 := hC4.c2
      have c3 := hC4.c3
      have c4 := hC4.c4
      have cl := hC4.lt
      have hnn : n ≤ 59 := by have := HB.out; omega
      have hnb : (n : Int) ≤ C.bits := by have := HB.out; omega
      have hm0 : 0 ≤ key.tmod (keys C 0) := Int.tmod_nonneg _ hkey.1
      have hm1 : key.tmod (keys C 0) < keys C 0 := Int.tmod_lt_of_pos _ (by omega)
      have hj0 : 0 ≤ key.tmod (keys C 0) / 2 ^ n := sh_nn hm0 n
      have hj1 : key.tmod (keys C 0) / 2 ^ n < keys C n := sh_lt hok hnb hm0 hm1
      have hkn := keys_bd C hok n (Int.natCast_nonneg n)
      clear hkm0 hkm1 hm0 hm1
      by_cases hl0 : 0 < us.length
      all_goals
        go_upto_if 57 with (fail)
        generalize key.tmod (keys C 0) / 2 ^ n = jx at *
        obtain ⟨w5, hw5⟩ : ∃ w5, w4.alloc (.cells #[.int .i64 n, .int .u64 jx] 77) = w5 := ⟨_, rfl⟩
        have hx5 : Ext w4 w5 := by rw [← hw5]; exact Ext.alloc' _ _
        have hPc : w5.heap[w4.heap.size]? = some (.cells #[.int .i64 n, .int .u64 jx] 77 (0, 0)) := by rw [← hw5]; exact heap_at _ _ rfl
        rw [hw5]
        clear hw5
        have pcl := lt_of hPc
        go_cut [] (fun wx => ∃ j2 : Int, 0 ≤ j2 ∧ j2 < keys C n ∧ wx.heap[w4.heap.size]? = some (.cells #[.int .i64 n, .int .u64 j2] 77 (0, 0)) ∧ Ext w4 wx)
        case first =>
          have hP5 := hx5.keep hP4
          have hU5 := HU4.out.ext hx5
          have hC5 := hC4.ext hx5
          clear c0 c1 c2 c3 c4 cl p5 pl hP4 HU4 hC4 hK4
          have c0 := hC5.c0
          have c1 := hC5.c1
          have c2 := hC5.c2
          have c3 := hC5.c3
          have c4 := hC5.c4
          have cl := hC5.lt
          have p5 := (cell_of hP5 5).trans rfl
          have pl := lt_of hP5
          by_cases hl : 0 < us.length ∧ key % 2 = 0
          · obtain ⟨hl1, hl2⟩ := hl
            first
            | exact absurd hl1 hl0
            | (
                have g2 : (key.tmod 2 == 0) = true := by rw [Int.tmod_eq_emod_of_nonneg hkey.1]; simpa using hl2
                obtain ⟨ug, off, rfl, hul0, d0, d1⟩ := hU5.one hl1
                have hu := hus _ (List.getElem_mem hl1)
                generalize us[0] = uu at *
                obtain ⟨uk, ud⟩ := uu
                have hkb := cutK_bd C hok 0 uk (Int.le_refl 0)
                have q0 := sh_nn hkb.1 n
                have q1 := sh_lt hok hnb hkb.1 hkb.2
                have hCut : ∀ W', Calls Try.prog 50 #[.agg #[.int .i64 C.bits, .int .i64 C.rows, .int .i64 C.width, .int .i64 C.mode, .int .u64 C.seed], .agg #[.int .u64 uk, .int .i64 ud]] W' fun e w' => e = .returned (.agg #[.int .u64 (cutK C 0 uk), .int .i64 (cutD C.mode ud)]) ∧ Ext W' w' := fun W' => Cut15_c C hok uk ud hu.1 hu.2 W'
                unfold sh at q0 q1
                generalize cutK C 0 uk = kk at *
                generalize cutD C.mode ud = dd at *
                have f1 := frozen_of hPc 1
                have e1 := (cell_of hPc 1).trans rfl
                simp only [Nat.zero_mul, Nat.add_zero, Nat.zero_add] at d0 d1
                try rw [g2]
                go_wp2_with fail
                refine wp_region_after_tail 11 (by kernel_rfl) (by kernel_rfl) ?_
                simp only [List.take_succ_cons, List.take_zero, List.drop_succ_cons, List.drop_zero]
                repeat (go_big_quiet_step ((go_at_call 50; with_reducible exact quiet_after (hCut _))))
                refine wpQuiet_nil ?_
                rintro _ ⟨xx, rfl⟩
                obtain ⟨w6, hb6⟩ := xx
                try dsimp only
                have e6 := hb6.keep hPc
                have f6 := frozen_of e6 1
                have e1' := (cell_of e6 1).trans rfl
                have l6 := lt_of e6
                go_wp2
                go_meet
                refine ⟨kk / 2 ^ n, q0, q1, by rw [setCell_same e6]; rfl, (hx5.trans' (by (repeat' (first | exact Ext.refl _ | assumption | apply Ext.allocR | apply Ext.drewR | apply Ext.drewNR | (refine Ext.trans' ?_ (by assumption)))))).setR (p := ⟨w4.heap.size, 1, none⟩) (Nat.le_refl _) _⟩)
          · by_cases hkk : key % 2 = 0
            · have hl3 : ¬ 0 < us.length := fun h => hl ⟨h, hkk⟩
              go_wp2_with fail
              all_goals
                go_meet
                exact ⟨jx, hj0, hj1, hPc, hx5⟩
            · have g2 : (key.tmod 2 == 0) = false := by rw [Int.tmod_eq_emod_of_nonneg hkey.1]; simpa using hkk
              try rw [g2]
              go_wp2_with fail
              all_goals
                go_meet
                exact ⟨jx, hj0, hj1, hPc, hx5⟩
        case rest =>
          obtain ⟨j2, hj20, hj21, hPc', hxc⟩ := hcut
          have hjU : U64 j2 := by unfold U64; omega
          have q0 := (cell_of hPc' 0).trans rfl
          have q1 := (cell_of hPc' 1).trans rfl
          have ql := lt_of hPc'
          clear hx5 hPc pcl c0 c1 c2 c3 c4 cl p5 pl hj0 hj1
          go_wp2_with fail
          refine Calls.mono (KPoint_c s g C B L _ _ (hK4.ext hxc) n hnB j2 hj20 hj21) ?_
          rintro e w6 ⟨z, rfl, hpt, hx6⟩
          have hx46 := hxc.trans' hx6
          have hE6 := hE4.trans' hx46
          have hU6 := HU4.out.ext hx46
          have hC6 := hC4.ext hx46
          have hP6 := hx46.keep hP4
          have hPc6 := hx6.keep hPc'
          clear q0 q1 ql hPc' hP4 hC4 hK4 HU4 hx6 hxc
          have c0 := hC6.c0
          have c1 := hC6.c1
          have c2 := hC6.c2
          have c3 := hC6.c3
          have c4 := hC6.c4
          have cl := hC6.lt
          have p5 := (cell_of hP6 5).trans rfl
          have pl := lt_of hP6
          have q0 := (cell_of hPc6 0).trans rfl
          have q1 := (cell_of hPc6 1).trans rfl
          have ql := lt_of hPc6
          have hov := over_law hok hnb hus hmn HPL.out hj20 hpt
          have hdv : decide (hasK C us 60 n j2 ≤ z) = true := decide_eq_true hov
          have hH := fun W' (h : Ext w6 W') => Has15_c us hus _ C hok n (by omega) j2 hjU _ (hU6.ext h) hul
          have HH := Lib.hid hH
          clear hpt hH hU6 hPc6 hP6 hC6 hx46 hx4
          generalize hasK C us 60 n j2 = hh at *
          go_wp2_with fail
          refine (HH.out _ (Ext.refl _)).mono ?_
          rintro e w7 ⟨rfl, hx7⟩
          go_wp2
          go_ret
          exact ⟨rfl, hE6.trans' hx7⟩
end Go.Proofs.Ytpnbgoahjoabkaa

/- gaugerlaw17.QuantBounds, walked. -/
namespace Go.Proofs.Ytpnbgoahjoabkaa
set_option linter.unusedVariables false
open Go.RowKit
set_option maxRecDepth 20000 in
set_option maxHeartbeats 16000000 in
theorem QBoundsL_c (x : Cfg) (hx : x.Raw) (ka : Int) (hka : I64 ka) (us : List (Int × Int)) (hus : UpsOk us) (v : Value) (w : World) (hv : UpsAt w v us) (hul : us.length ≤ 140737488355328) :
    Calls Try.prog 14 #[.agg #[.int .i64 x.bits, .int .i64 x.rows, .int .i64 x.width, .int .i64 x.mode, .int .u64 x.seed, v], .int .i64 ka] w fun e w' => e = .returned (.bool true) ∧ Ext w w' := by
  obtain ⟨vp, vc, rfl⟩ := hv.sl
  have HV := Lib.hid hv
  clear hv
  have ha1 := and1i x.mode
  go_enter Try.func14, Try.ntmps14
  go_wp2_with fail
  refine (shown17_c _).mono ?_
  rintro e w1 ⟨rfl, hb1⟩
  have hE1 : Ext w w1 := by (repeat' (first | exact Ext.refl _ | assumption | apply Ext.allocR | apply Ext.drewR | apply Ext.drewNR | (refine Ext.trans' ?_ (by assumption))))
  have hP1 := hb1.keep (heap_at w (.cells #[.int .i64 x.bits, .int .i64 x.rows, .int .i64 x.width, .int .i64 x.mode, .int .u64 x.seed, .slice vp us.length vc] 109) rfl)
  have p0 := (cell_of hP1 0).trans rfl
  have p1 := (cell_of hP1 1).trans rfl
  have p2 := (cell_of hP1 2).trans rfl
  have p3 := (cell_of hP1 3).trans rfl
  have p4 := (cell_of hP1 4).trans rfl
  have p5 := (cell_of hP1 5).trans rfl
  have pl := lt_of hP1
  clear hb1
  obtain ⟨m, hm⟩ : ∃ m : Int, m = if x.mode % 2 = 1 then 2 else 1 := ⟨_, rfl⟩
  go_upto_if 26 with (fail)
  go_cut [6] (fun s8 wx => s8 = .int .i64 m ∧ wx = w1)
  case first =>
    by_cases hmm : x.mode % 2 = 1
    · rw [if_pos hmm] at hm
      subst hm
      go_wp2_with fail
      go_meet
      exact ⟨rfl, rfl⟩
    · rw [if_neg hmm] at hm
      subst hm
      go_wp2_with fail
      go_meet
      exact ⟨rfl, rfl⟩
  case rest =>
   obtain ⟨rfl, rfl⟩ := hcut
   have hm12 : m = 1 ∨ m = 2 := by rw [hm]; split <;> simp
   clear ha1 hm
   have hm0 : 0 < m := by omega
   have hm3 : m ≤ 3 := by omega
   go_wp2_with fail
   refine Calls.mono (fed17_c x hx 10 (by decide) (by decide) m (by omega) hm3 us hus _ _ (HV.out.ext hE1) hul) ?_
   rintro e w2 ⟨s, g, L, rfl, hK, hs, hg, hF, hx2⟩
   have hok := kcfg_ok x hx.s (nb := 10) (m := m) (by decide) (by decide) hm3
   have hmd := kcfg_mode x 10 hm0
   generalize kcfg x 10 m = C at *
   have hmn : C.mode ≠ 3 := by omega
   have hb1 := hok.b1
   have hb2 := hok.b2
   obtain ⟨B, hB⟩ : ∃ B : Nat, C.bits = B := ⟨C.bits.toNat, by omega⟩
   have hBt : C.bits.toNat = B := by omega
   have hBd : B ≤ 59 := by omega
   have hbB1 : C.bits ≤ (B : Int) := by omega
   have hbB2 : (B : Int) ≤ C.bits := by omega
   rw [hBt] at hK
   have hE2 : Ext w w2 := by (repeat' (first | exact Ext.refl _ | assumption | apply Ext.allocR | apply Ext.drewR | apply Ext.drewNR | (refine Ext.trans' ?_ (by assumption))))
   have hP2 := hx2.keep hP1
   have HB := Lib.hid hB
   have HU2 := Lib.hid (HV.out.ext hE2)
   clear p0 p1 p2 p3 p4 p5 pl hP1 hx2 hE1 hs hg hF hB hBt hmd hm12 hm0 hm3
   go_upto_region 8 with (fail)
   obtain ⟨w3, hw3⟩ : ∃ w3, w2.alloc (.cells #[.int .i64 C.bits, .int .i64 C.rows, .int .i64 C.width, .int .i64 C.mode, .int .u64 C.seed] 24) = w3 := ⟨_, rfl⟩
   have hx3 : Ext w2 w3 := by rw [← hw3]; exact Ext.alloc' _ _
   have hC3 : CfgAt w3 w2.heap.size C := by rw [← hw3]; exact CfgAt.box C _ rfl
   rw [hw3]
   clear hw3
   have hE3 := hE2.trans' hx3
   have hP3 := hx3.keep hP2
   have hK3 := hK.ext hx3
   have hU3 := HU2.out.ext hx3
   clear hK hP2 hE2 hx3 HU2
   have HC3 := Lib.hid hC3
   have HP3 := Lib.hid hP3
   have HU3 := Lib.hid hU3
   have hTell : Tells C B (feedK C (fus us 0 60)) (ptK C B us) := tells_fed C B us
   obtain ⟨tb1, tb2⟩ := hasK_bd C us (Nat.le_refl 60) B 0
   have htot := feed_total hok HB.out hus
   have hQ : ∀ W' k, Ext w3 W' → I64 k → Calls Try.prog 78 #[.pointer (some ⟨s, 0, none⟩), .int .i64 k] W' (QuantPost W' B (hasK C us 60 B 0) (ptK C B us) k) := fun W' k h hk => by
     have := Quantile_c s g C B L _ W' (hK3.ext h) k hk _ hTell
     rw [htot] at this
     exact this
   have hWy : ∀ W' k, Ext w3 W' → I64 k → Calls Try.prog 79 #[.pointer (some ⟨s, 0, none⟩), .int .i64 k] W' (WayPost W' B (hasK C us 60 B 0) (ptK C B us) k) := fun W' k h hk => by
     have := Way_c s g C B L _ W' (hK3.ext h) k hk _ hTell
     rw [htot] at this
     exact this
   have hlaw : plK C us 60 = true → ∀ A, 1 ≤ A → A ≤ hasK C us 60 B 0 → _ := fun hp A h1 h2 => qb_law hok HB.out hus hmn hp (A := A) h1 h2
   have HQ := Lib.hid hQ
   have HWy := Lib.hid hWy
   have HLaw := Lib.hid hlaw
   have HK3 := Lib.hid hK3
   clear hQ hWy hTell htot hlaw hC3 hP3 hU3 hK3
   have hHas : ∀ W', Ext w3 W' → Calls Try.prog 55 #[.agg #[.int .i64 C.bits, .int .i64 C.rows, .int .i64 C.width, .int .i64 C.mode, .int .u64 C.seed], .slice vp us.length vc, .agg #[.int .i64 C.bits, .int .u64 0]] W' fun e w' => e = .returned (.int .i64 (hasK C us 60 B 0)) ∧ Ext W' w' := fun W' h => Has15_top us hus _ C hok HB.out W' (HU3.out.ext h) hul
   generalize hasK C us 60 B 0 = T at *
   have c0 := HC3.out.c0
   have c1 := HC3.out.c1
   have c2 := HC3.out.c2
   have c3 := HC3.out.c3
   have c4 := HC3.out.c4
   have cl := HC3.out.lt
   have p5 := (cell_of HP3.out 5).trans rfl
   have pl := lt_of HP3.out
   go_wp2_with fail
   refine (hHas _ (Ext.refl _)).mono ?_
   rintro e w4 ⟨rfl, hx4⟩
   have hE4 : Ext w3 w4 := hx4
   clear c0 c1 c2 c3 c4 cl p5 pl hx4 hHas
   have hC4 := HC3.out.ext hE4
   have hP4 := hE4.keep HP3.out
   have c0 := hC4.c0
   have c1 := hC4.c1
   have c2 := hC4.c2
   have c3 := hC4.c3
   have c4 := hC4.c4
   have cl := hC4.lt
   have p5 := (cell_of hP4 5).trans rfl
   have pl := lt_of hP4
   clear hC4 hP4
   go_wp2_with fail
   refine (Plain15_c us hus _ C hok _ (HU3.out.ext hE4) hul).mono ?_
   rintro e w5 ⟨rfl, hx5⟩
   have hE5 : Ext w3 w5 := hE4.trans' hx5
   clear hE4 hx5 c0 c1 c2 c3 c4 cl p5 pl
   cases hpl : plK C us 60 with
   | false =>
     clear hpl
     go_wp2_with fail
     go_ret
     exact ⟨rfl, hE3.trans' hE5⟩
   | true =>
    have HL1 := Lib.hid (HLaw.out hpl)
    clear hpl HLaw
    by_cases hz : T < 1
    · go_wp2_with fail
      go_ret
      exact ⟨rfl, hE3.trans' hE5⟩
    have a1 := and62i ka
    obtain ⟨r1, r2⟩ := rank_bd (x := ka) (T := T) (by omega)
    have hzT : (T == 0) = false := by simp; omega
    go_upto_region 12 with (fail)
    generalize hA : 1 + ka % 4611686018427387904 % T = A at *
    have hA1 : 1 ≤ A := by omega
    have hA2 : A ≤ T := by omega
    have hlw := HL1.out A hA1 hA2
    have HLW := Lib.hid hlw
    clear a1 r1 r2 hzT hA hlw HL1
    go_wp2_with fail
    refine (HQ.out _ _ (hE5.trans' (by (repeat' (first | exact Ext.refl _ | assumption | apply Ext.allocR | apply Ext.drewR | apply Ext.drewNR | (refine Ext.trans' ?_ (by assumption)))))) (by unfold I64; omega)).mono ?_
    rintro e w6 hp
    obtain ⟨_, rfl, hx6⟩ := hp.resolve_left (fun h => by have := h.1; omega)
    have hE6 : Ext w3 w6 := hE5.trans' (by (repeat' (first | exact Ext.refl _ | assumption | apply Ext.allocR | apply Ext.drewR | apply Ext.drewNR | (refine Ext.trans' ?_ (by assumption)))))
    clear hx6 hp HQ hE5
    go_wp2_with fail
    refine (HWy.out _ _ (hE6.trans' (by (repeat' (first | exact Ext.refl _ | assumption | apply Ext.allocR | apply Ext.drewR | apply Ext.drewNR | (refine Ext.trans' ?_ (by assumption)))))) (by unfold I64; omega)).mono ?_
    rintro e w7 hp
    obtain ⟨_, v7, base, rfl, hbs, ho, hx7⟩ := hp.resolve_left (fun h => by have := h.1; omega)
    obtain ⟨g7, c7, rfl, hg7, hp7⟩ := own_pieces ho (by rw [wayP_len]; omega)
    have hE7 : Ext w3 w7 := hE6.trans' (by (repeat' (first | exact Ext.refl _ | assumption | apply Ext.allocR | apply Ext.drewR | apply Ext.drewNR | (refine Ext.trans' ?_ (by assumption)))))
    rw [wayP_len]
    have hlen := wayP_len (ptK C B us) B A
    have hst : ∀ j : Nat, j < B → ((wayP (ptK C B us) B A).getD (j + 1) (0, 0)).2 / 2 = ((wayP (ptK C B us) B A).getD j (0, 0)).2 ∧ 0 ≤ ((wayP (ptK C B us) B A).getD (j + 1) (0, 0)).2 := way_step (ptK C B us) B 0 A (Int.le_refl 0)
    have hlv : ∀ j : Nat, j ≤ B → ((wayP (ptK C B us) B A).getD j (0, 0)).1 + j = B := way_lev (ptK C B us) B 0 A
    have hub : ∀ j : Nat, j ≤ B → ((wayP (ptK C B us) B A).getD j (0, 0)).2 < 2 ^ j := fun j hj => by
      have h1 := way_bd (ptK C B us) B 0 A j (Int.le_refl 0) hj
      have h3 : ((wayP (ptK C B us) B A).getD j (0, 0)).2 < (0 + 1) * 2 ^ j := h1
      omega
    have hnn : ∀ j : Nat, j ≤ B → 0 ≤ ((wayP (ptK C B us) B A).getD j (0, 0)).2 := fun j hj => by
      cases j with
      | zero => exact Int.le_refl 0
      | succ j => exact (hst j (by omega)).2
    have hky := wayI_key HB.out (ptK C B us) A
    have hos := oS_snoc (ptK C B us) (pcS (psU C us)) (wayP (ptK C B us) B A)
    have hob := oS_bd (pt := ptK C B us) (S := pcS (psU C us)) (ptK_bnd C B us) (fun n i => psU_bnd C us _) (wayP (ptK C B us) B A)
    have hoz := oS_zero (ptK C B us) (pcS (psU C us)) (wayP (ptK C B us) B A)
    have HLEN := Lib.hid hlen
    have HLV := Lib.hid hlv
    have HUB := Lib.hid hub
    have HNN := Lib.hid hnn
    have HOS := Lib.hid hos
    have HOB := Lib.hid hob
    have HOZ := Lib.hid hoz
    have HP7 := Lib.hid hp7
    obtain ⟨hk0, hk1⟩ := hky
    have hkb := keys_bd C hok 0 (Int.le_refl 0)
    clear hx7 hp ho hbs hlen hlv hub hnn hst hos hob hoz hp7 HWy hE6
    generalize wayI (ptK C B us) B 0 A = key at *
    generalize wayP (ptK C B us) B A = dn at *
    have hC7 := HC3.out.ext hE7
    have c0 := hC7.c0
    have c1 := hC7.c1
    have c2 := hC7.c2
    have c3 := hC7.c3
    have c4 := hC7.c4
    have cl := hC7.lt
    clear hC7
    have q1 : ((B : Int) + 1 == C.bits + 1) = true := by simp; omega
    have q2 : ((B : Int) + 1 != C.bits + 1) = false := by simp; omega
    have q3 : (((B + 1 : Nat) : Int) == C.bits + 1) = true := by simp; omega
    have q4 : ((B : Int) == C.bits) = true := by simp; omega
    have q5 : ((B : Int) != C.bits) = false := by simp; omega
    go_wp2_with fail
    refine (KeysR_c C hok 0 (Int.le_refl 0) (by omega) _).mono ?_
    rintro e w8 ⟨rfl, hx8⟩
    have hE78 : Ext w7 w8 := by (repeat' (first | exact Ext.refl _ | assumption | apply Ext.allocR | apply Ext.drewR | apply Ext.drewNR | (refine Ext.trans' ?_ (by assumption))))
    have hE8 : Ext w3 w8 := hE7.trans' hE78
    have HP8 := Lib.hid (HP7.out.ext hg7 hE78)
    have hg8 : g7 < w8.heap.size := Nat.lt_of_lt_of_le hg7 hE78.size
    clear hx8 hE78 HP7 hg7 hE7 c0 c1 c2 c3 c4 cl q1 q2 q3 q4 q5
    generalize hKK : keys C 0 = KN at *
    have HKK := Lib.hid hKK
    clear hKK
    go_wp2
    go_loopw [14, 15] (fun u14 u15 wr => ∃ i : Nat, i ≤ B ∧ u14 = .int .i64 (oS (ptK C B us) (pcS (psU C us)) dn i) ∧ u15 = .int .i64 i ∧ Ext w8 wr) (fun _ u15 _ => B - (intOf u15).toNat)
    case atStart => exact ⟨0, Nat.zero_le _, by rw [HOZ.out], rfl, Ext.refl _⟩
    case round =>
      obtain ⟨i, hi, rfl, rfl, hEr⟩ := hrel
      have hEr3 : Ext w3 wr := hE8.trans' hEr
      have hgr : g7 < wr.heap.size := Nat.lt_of_lt_of_le hg8 hEr.size
      have hCr := HC3.out.ext hEr3
      have hPr := hEr3.keep HP3.out
      have c0 := hCr.c0
      have c1 := hCr.c1
      have c2 := hCr.c2
      have c3 := hCr.c3
      have c4 := hCr.c4
      have cl := hCr.lt
      have p5 := (cell_of hPr 5).trans rfl
      have pl := lt_of hPr
      obtain ⟨ob1, ob2⟩ := HOB.out i
      by_cases hlt : i < B
      · obtain ⟨d0, d1⟩ := (HP8.out.ext hg8 hEr) i (by rw [HLEN.out]; omega)
        rw [Nat.zero_add] at d0 d1
        have hsn := HOS.out i (by rw [HLEN.out]; omega)
        have v1 := HLV.out i (by omega)
        have ub := HUB.out i (by omega)
        have nn := HNN.out i (by omega)
        have hpw := pow_bd i (by omega)
        have hpw2 : (2 : Int) * 2 ^ i = 2 ^ (i + 1) := by rw [Int.pow_succ, Int.mul_comm]
        obtain ⟨m2, hm2⟩ : ∃ m2 : Nat, (dn.getD i (0, 0)).1 = m2 + 1 := ⟨(dn.getD i (0, 0)).1 - 1, by omega⟩
        rw [hm2] at d0 hsn v1
        rw [Nat.add_sub_cancel] at hsn
        generalize (dn.getD i (0, 0)).2 = ix at *
        have hkm : 2 * ix < keys C m2 := by
          have e : keys C m2 = 2 ^ (i + 1) := by
            unfold keys
            rw [HB.out]
            congr 1
            omega
          rw [e]
          omega
        obtain ⟨hb1', hb2'⟩ := ptK_bnd C B us m2 (2 * ix)
        obtain ⟨hc1', hc2'⟩ := psU_bnd C us (fun u => sh m2 u == 2 * ix)
        have hc1'' : -65970697666560 ≤ pcS (psU C us) m2 (2 * ix) := hc1'
        have hc2'' : pcS (psU C us) m2 (2 * ix) ≤ 65970697666560 := hc2'
        generalize oS (ptK C B us) (pcS (psU C us)) dn i = ov at *
        have HSN := Lib.hid hsn
        have ixb : ix ≤ 576460752303423488 := by omega
        clear hsn hm2 hc1' hc2' hCr hPr ub hpw hpw2
        go_upto_region 20 with (fail)
        go_cut [16] (fun s16 wx => ∃ bl : Nat, s16 = .pointer (some ⟨bl, 0, none⟩) ∧ wx.heap[bl]? = some (.cells #[.int .i64 m2, .int .u64 (2 * ix)] 77 (0, 0)) ∧ Ext wr wx)
        case first =>
          have hC0 := af_drew wr
          refine pi_start (fun w' => ∃ x : After wr, w' = x.w) [14] (by kernel_rfl) ?_
          refine pi_t 0 rfl (by kernel_rfl) (by kernel_rfl) (fun _ _ _ _ h => h) (fun K hK => ?_)
          go_big_quiet_op
          refine hK _ ?_
          clear hK K
          refine pi_t 1 rfl (by kernel_rfl) (by kernel_rfl) (fun _ _ _ _ h => h) (fun K hK => ?_)
          go_big_quiet_op
          refine hK _ ?_
          clear hK K
          refine pi_t 2 rfl (by kernel_rfl) (by kernel_rfl) (fun _ _ _ _ h => h) (fun K hK => ?_)
          go_big_quiet_op
          refine hK _ ?_
          clear hK K
          refine pi_t 3 rfl (by kernel_rfl) (by kernel_rfl) (fun _ _ _ _ h => h) (fun K hK => ?_)
          go_big_quiet_op
          refine hK _ ?_
          clear hK K
          refine pi_c 4 (by assumption) rfl (by kernel_rfl) (by kernel_rfl) (fun _ _ _ _ h => h) (fun K hK => ?_)
          go_big_quiet_op
          refine hK _ ?_
          clear hK K
          refine pi_t 5 rfl (by kernel_rfl) (by kernel_rfl) (fun _ _ _ _ h => h) (fun K hK => ?_)
          go_big_quiet_op
          refine hK _ ?_
          clear hK K
          refine pi_t 6 rfl (by kernel_rfl) (by kernel_rfl) (fun _ _ _ _ h => h) (fun K hK => ?_)
          go_big_quiet_op
          refine hK _ ?_
          clear hK K
          refine pi_t 7 rfl (by kernel_rfl) (by kernel_rfl) (fun _ _ _ _ h => h) (fun K hK => ?_)
          go_big_quiet_op
          refine hK _ ?_
          clear hK K
          refine pi_t 8 rfl (by kernel_rfl) (by kernel_rfl) (fun _ _ _ _ h => h) (fun K hK => ?_)
          go_big_quiet_op
          refine hK _ ?_
          clear hK K
          refine pi_t 9 rfl (by kernel_rfl) (by kernel_rfl) (fun _ _ _ _ h => h) (fun K hK => ?_)
          go_big_quiet_op
          refine hK _ ?_
          clear hK K
          refine pi_c 10 (by assumption) rfl (by kernel_rfl) (by kernel_rfl) (fun _ _ _ _ h => h) (fun K hK => ?_)
          go_big_quiet_op
          refine hK _ ?_
          clear hK K
          refine pi_t 11 rfl (by kernel_rfl) (by kernel_rfl) (fun _ _ _ _ h => h) (fun K hK => ?_)
          go_big_quiet_op
          refine hK _ ?_
          clear hK K
          refine pi_t 12 rfl (by kernel_rfl) (by kernel_rfl) (fun _ _ _ _ h => h) (fun K hK => ?_)
          go_big_quiet_op
          refine hK _ ?_
          clear hK K
          refine pi_l 13 rfl (by kernel_rfl) (fun K hK => ?_)
          go_wp2
          refine hK _ _ (fun _ h => af_step h (Ext.alloc' _ _)) ?_
          clear hK K
          refine pi_l 14 rfl (by kernel_rfl) (fun K hK => ?_)
          go_wp2
          refine hK _ _ (by simp) ?_
          clear hK K
          refine pi_end (by kernel_rfl) ?_
          go_wp2_with fail
          go_meet
          exact ⟨wr.heap.size, rfl, heap_at _ _ rfl, Ext.drewR (Ext.alloc' _ _)⟩
        case rest =>
          obtain ⟨bl, rfl, hbl, hxl⟩ := hcut
          clear c0 c1 c2 c3 c4 cl p5 pl d0 d1
          have b0 := (cell_of hbl 0).trans rfl
          have b1 := (cell_of hbl 1).trans rfl
          have bll := lt_of hbl
          have hEl : Ext w3 wc := hEr3.trans' hxl
          go_wp2_with fail
          refine Calls.mono (KPoint_c s g C B L _ _ (HK3.out.ext hEl) m2 (by omega) (2 * ix) (by omega) hkm) ?_
          rintro e w9 ⟨z, rfl, hpt, hx9⟩
          have hzp := ptK_of (C := C) (B := B) (us := us) (by omega) (by omega) hkm hpt
          subst hzp
          have hE9 : Ext w3 w9 := hEl.trans' hx9
          have hEr9 : Ext w8 w9 := hEr.trans' (hxl.trans' hx9)
          have hb9 := hx9.keep hbl
          clear b0 b1 bll hpt hx9 hxl hEl hbl
          have hC9 := HC3.out.ext hE9
          have hP9 := hE9.keep HP3.out
          have c0 := hC9.c0
          have c1 := hC9.c1
          have c2 := hC9.c2
          have c3 := hC9.c3
          have c4 := hC9.c4
          have cl := hC9.lt
          have p5 := (cell_of hP9 5).trans rfl
          have pl := lt_of hP9
          have b0 := (cell_of hb9 0).trans rfl
          have b1 := (cell_of hb9 1).trans rfl
          have bll := lt_of hb9
          clear hC9 hP9 hb9
          generalize ptK C B us m2 (2 * ix) = P at *
          have hHs := Has15_c us hus (.slice vp us.length vc) C hok m2 (by omega) (2 * ix) (by unfold U64; omega) w9 (HU3.out.ext hE9) hul
          rw [hasK_pc] at hHs
          generalize pcS (psU C us) m2 (2 * ix) = Hh at *
          have HHS := Lib.hid hHs
          clear hHs
          go_wp2_with fail
          refine HHS.out.mono ?_
          rintro e w10 ⟨rfl, hx10⟩
          clear c0 c1 c2 c3 c4 cl p5 pl b0 b1 bll
          go_wp2
          go_roundw
          case rel => exact ⟨i + 1, by omega, by rw [HSN.out]; congr 1; omega, by go_num, hEr9.trans' hx10⟩
          case measure => simp [intOf]; omega
      · obtain rfl : i = B := by omega
        obtain ⟨l1, l2, l3⟩ := HLW.out
        have hb1' := betK_bd C us (Nat.le_refl 60) 0 key
        have hb2' := hasK_bd C us (Nat.le_refl 60) 0 key
        have hkU : U64 key := by have := HKK.out; unfold U64; omega
        have hBe := fun W' (h : Ext w3 W') => Between16_c us hus (.slice vp us.length vc) C hok 0 key (by unfold U64; omega) hkU W' (HU3.out.ext h) hul
        have hHs := fun W' (h : Ext w3 W') => Has15_zero us hus (.slice vp us.length vc) C hok key hkU W' (HU3.out.ext h) hul
        generalize betK C us 60 0 key = bt at *
        generalize hasK C us 60 0 key = hh at *
        generalize oS (ptK C i us) (pcS (psU C us)) dn i = ov at *
        have HBE := Lib.hid hBe
        have HHS := Lib.hid hHs
        clear hBe hHs hCr hPr
        go_wp2_with fail
        refine (HBE.out _ (hEr3.trans' (by (repeat' (first | exact Ext.refl _ | assumption | apply Ext.allocR | apply Ext.drewR | apply Ext.drewNR | (refine Ext.trans' ?_ (by assumption))))))).mono ?_
        rintro e w9 ⟨rfl, hx9⟩
        have hE9 : Ext w3 w9 := hEr3.trans' (by (repeat' (first | exact Ext.refl _ | assumption | apply Ext.allocR | apply Ext.drewR | apply Ext.drewNR | (refine Ext.trans' ?_ (by assumption)))))
        clear hx9 c0 c1 c2 c3 c4 cl p5 pl
        have hC9 := HC3.out.ext hE9
        have hP9 := hE9.keep HP3.out
        have c0 := hC9.c0
        have c1 := hC9.c1
        have c2 := hC9.c2
        have c3 := hC9.c3
        have c4 := hC9.c4
        have cl := hC9.lt
        have p5 := (cell_of hP9 5).trans rfl
        have pl := lt_of hP9
        clear hC9 hP9
        go_wp2_with fail
        refine (HHS.out _ (hE9.trans' (by (repeat' (first | exact Ext.refl _ | assumption | apply Ext.allocR | apply Ext.drewR | apply Ext.drewNR | (refine Ext.trans' ?_ (by assumption))))))).mono ?_
        rintro e w10 ⟨rfl, hx10⟩
        go_wp2
        go_ret
        exact ⟨rfl, hE3.trans' (hE9.trans' (by (repeat' (first | exact Ext.refl _ | assumption | apply Ext.allocR | apply Ext.drewR | apply Ext.drewNR | (refine Ext.trans' ?_ (by assumption))))))⟩
end Go.Proofs.Ytpnbgoahjoabkaa

/- What the arguments of the statements read as: a config, updates, a play. No condition. -/
namespace Go.Proofs.Ytpnbgoahjoabkaa
set_option linter.unusedVariables false
open Go.ChangeShapes Go.WideShapes Go.ChangeAt Go.RowKit Go.Deep

theorem wf_u64 {x : Int} (h : (Lit.int IntKind.u64 x).wf = true) : U64 x := by
  have := bounds_u64 h
  exact ⟨this.1, by omega⟩
theorem wf_i64 {x : Int} (h : (Lit.int IntKind.i64 x).wf = true) : I64 x := by
  have := bounds_i64 h
  exact ⟨this.1, by omega⟩
section
variable {H : Type} {enc : TypeId × Value → H} {w : World} {base : Nat} {spare : Nat → Bool} {held : Bool}
set_option maxRecDepth 100000 in
/-- Five cells that read as a config. -/
theorem cfg_of {n : Nat} {cs : List Value} {y : DataW H × List MemPlace} (h : DataW.trod enc Try.prog w base spare held n 24 cs = some y) :
    ∃ C : Cfg, C.Raw ∧ cs = [.int .i64 C.bits, .int .i64 C.rows, .int .i64 C.width, .int .i64 C.mode, .int .u64 C.seed] := by
  obtain ⟨xs, n, _, _, hl, hx, hg⟩ := DataW.trod_struct Try.underlying24 h
  have hl' : cs.length = 5 := hl.trans (by kernel_rfl)
  match cs, hl' with
  | [c0, c1, c2, c3, c4], _ =>
    have hx' : xs.length = 5 := hx.trans (by kernel_rfl)
    match xs, hx' with
    | [x0, x1, x2, x3, x4], _ =>
      have e0 : DataW.trod enc Try.prog w base spare held n 3 [c0] = some x0 := hg 0 _ rfl
      have e1 : DataW.trod enc Try.prog w base spare held n 3 [c1] = some x1 := hg 1 _ rfl
      have e2 : DataW.trod enc Try.prog w base spare held n 3 [c2] = some x2 := hg 2 _ rfl
      have e3 : DataW.trod enc Try.prog w base spare held n 3 [c3] = some x3 := hg 3 _ rfl
      have e4 : DataW.trod enc Try.prog w base spare held n 22 [c4] = some x4 := hg 4 _ rfl
      obtain ⟨a0, h0, _, w0⟩ := DataW.trod_int Try.underlying3 e0
      obtain ⟨a1, h1, _, w1⟩ := DataW.trod_int Try.underlying3 e1
      obtain ⟨a2, h2, _, w2⟩ := DataW.trod_int Try.underlying3 e2
      obtain ⟨a3, h3, _, w3⟩ := DataW.trod_int Try.underlying3 e3
      obtain ⟨a4, h4, _, w4⟩ := DataW.trod_int Try.underlying22 e4
      simp only [List.cons.injEq, and_true] at h0 h1 h2 h3 h4
      exact ⟨⟨a0, a1, a2, a3, a4⟩, ⟨wf_i64 w0, wf_i64 w1, wf_i64 w2, wf_i64 w3, wf_u64 w4⟩, by rw [h0, h1, h2, h3, h4]⟩
set_option maxRecDepth 100000 in
/-- Two cells that read as an update. -/
theorem upd_of {n : Nat} {cs : List Value} {y : DataW H × List MemPlace} (h : DataW.trod enc Try.prog w base spare held n 38 cs = some y) :
    ∃ u : Int × Int, (U64 u.1 ∧ I64 u.2) ∧ cs = [.int .u64 u.1, .int .i64 u.2] := by
  obtain ⟨xs, n, _, _, hl, hx, hg⟩ := DataW.trod_struct Try.underlying38 h
  have hl' : cs.length = 2 := hl.trans (by kernel_rfl)
  match cs, hl' with
  | [c0, c1], _ =>
    have hx' : xs.length = 2 := hx.trans (by kernel_rfl)
    match xs, hx' with
    | [x0, x1], _ =>
      have e0 : DataW.trod enc Try.prog w base spare held n 22 [c0] = some x0 := hg 0 _ rfl
      have e1 : DataW.trod enc Try.prog w base spare held n 2 [c1] = some x1 := hg 1 _ rfl
      obtain ⟨a0, h0, _, w0⟩ := DataW.trod_int Try.underlying22 e0
      obtain ⟨a1, h1, _, w1⟩ := DataW.trod_int Try.underlying2 e1
      simp only [List.cons.injEq, and_true] at h0 h1
      exact ⟨(a0, a1), ⟨wf_u64 w0, wf_i64 w1⟩, by rw [h0, h1]⟩
theorem add_plain0 (b off i : Nat) : (Addr.add ⟨b, off, none⟩ i) = ⟨b, off + i, none⟩ := by
  unfold Addr.add
  by_cases h : i = 0
  · subst h; simp
  · simp [h]
theorem choose_list {α : Type} (P : Nat → α → Prop) : ∀ n, (∀ i, i < n → ∃ x, P i x) → ∃ l : List α, l.length = n ∧ ∀ i (h : i < l.length), P i l[i] := by
  intro n
  induction n with
  | zero => intro _; exact ⟨[], rfl, fun i h => by simp at h⟩
  | succ n ih =>
    intro h
    obtain ⟨l, hl, hP⟩ := ih (fun i hi => h i (by omega))
    obtain ⟨x, hx⟩ := h n (by omega)
    refine ⟨l ++ [x], by simp [hl], fun i hi => ?_⟩
    by_cases e : i < l.length
    · rw [List.getElem_append_left e]; exact hP i e
    · have : i = n := by simp at hi; omega
      subst this
      rw [List.getElem_append_right (by omega)]
      simp [hl, hx]
/-- A cell that reads as a slice of updates. -/
theorem ups_of {n : Nat} {v : Value} {y : DataW H × List MemPlace} (h : DataW.trod enc Try.prog w 0 (fun _ => true) held n 25 [v] = some y) :
    ∃ us : List (Int × Int), UpsOk us ∧ UpsAt w v us ∧ (us = [] ∨ ∃ el sp : List (DataW H), y.1 = .slice el sp ∧ el.length = us.length) := by
  rcases open_slice Try.underlying25 h with ⟨hcs, _⟩ | ⟨a, len, cap, m, n', D, Pl, hcs, _, hlc, hcm, hm, hx, hi⟩
  · simp only [List.cons.injEq, and_true] at hcs
    subst hcs
    exact ⟨[], (by intro u hu; cases hu), .inl ⟨⟨_, rfl⟩, rfl⟩, .inl rfl⟩
  · simp only [List.cons.injEq, and_true] at hcs
    subst hcs
    simp only [if_true] at hm
    rw [hm] at hi hx
    clear hm
    have hC : Try.prog.cellsOf 38 = 2 := by kernel_rfl
    rw [hC] at hi
    have key : ∀ i, i < len → ∃ u : Int × Int, (U64 u.1 ∧ I64 u.2) ∧ w.cell? (a.add (i * 2)) = some (.int .u64 u.1) ∧ w.cell? (a.add (i * 2 + 1)) = some (.int .i64 u.2) := by
      intro i hil
      obtain ⟨cs', hc, ht⟩ := hi i (by omega)
      obtain ⟨u, hu, rfl⟩ := upd_of ht
      obtain ⟨_, _, hat⟩ := World.cells?_some hc
      refine ⟨u, hu, ?_, ?_⟩
      · have := hat 0 (by omega); rw [add_add, Nat.add_zero] at this; exact this
      · have := hat 1 (by omega); rw [add_add] at this; exact this
    obtain ⟨us, hul, hus⟩ := choose_list _ len key
    by_cases h0 : cap = 0
    · have hl0 : len = 0 := by omega
      subst hl0 h0
      obtain rfl : us = [] := List.length_eq_zero_iff.1 hul
      exact ⟨[], (by intro u hu; cases hu), .inl ⟨⟨_, rfl⟩, rfl⟩, .inl rfl⟩
    · obtain ⟨cs', hc, ht⟩ := hi 0 (by omega)
      obtain ⟨u, _, rfl⟩ := upd_of ht
      obtain ⟨_, _, hat⟩ := World.cells?_some hc
      have h1 := hat 0 (by omega)
      obtain ⟨b, off, spot⟩ := a
      have hspot : spot = none := by simpa [Addr.add] using World.cell?_spot h1
      subst hspot
      have hb : b < w.heap.size := by
        rcases Nat.lt_or_ge b w.heap.size with h' | h'
        · exact h'
        · simp [World.cell?, Addr.add, Array.getElem?_eq_none h'] at h1
      refine ⟨us, ?_, .inr ⟨b, off, cap, by rw [hul], hb, fun k hk => ?_⟩, .inr ⟨_, _, by rw [hx], by simp [hul]⟩⟩
      · intro u hu
        obtain ⟨i, hi', rfl⟩ := List.getElem_of_mem hu
        exact (hus i hi').1
      · have := (hus k hk).2
        have hg : us.getD k (0, 0) = us[k] := by simp [hk]
        rw [hg]
        rw [add_plain0, add_plain0] at this
        simpa only [Nat.add_assoc] using this
theorem reach_of {ts : List TypeId} {ds : List (DataW H)} {j : Nat} {t : TypeId} {d : DataW H} (hsz : (DataW.weightsEach Try.prog ts ds).all (· ≤ reachBytes) = true) (ht : ts[j]? = some t) (hd : ds[j]? = some d) {n : Nat} (hn : n ∈ d.weights Try.prog t) : n ≤ reachBytes := by
  have := List.all_eq_true.1 hsz _ (DataW.weights_mem_each ht hd n hn)
  simpa using this
end
end Go.Proofs.Ytpnbgoahjoabkaa
