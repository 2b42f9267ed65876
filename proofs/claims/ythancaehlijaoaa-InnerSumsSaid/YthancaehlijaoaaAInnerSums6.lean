/- InnerSums: where no key has less than 0, the product is the sum of the products of what the same keys have, and the least sum, over a row, of the products of what unlike keys with the same column have. No condition: every input. -/
import Derived.Test.YthancaehlijaoaaAInnerSums5
import Derived.ProofKit
import Derived.OpenShut
import Derived.ChangeOld
import Derived.Below
import Derived.SizedLaws
import Derived.Deep.Slices
import Derived.Deep.Fields

/- gaugerlaw11.InnerUnlike, walked. -/
namespace Go.Proofs.Ythancaehlijaoaa
set_option linter.unusedVariables false
open Go.RowKit

theorem zs_getD' (n i : Nat) : (zs n).getD i 0 = 0 := by
  unfold zs
  rw [List.getD_eq_getElem?_getD]
  rcases Nat.lt_or_ge i n with h | h
  · simp [h]
  · simp [h]
theorem rowP_getD (l : List Int) (W r k : Nat) : (rowP l W r).getD k 0 = if k < W then l.getD (r * W + k) 0 else 0 := by
  by_cases h : k < W
  · rw [rowP_get l h, if_pos h]
  · rw [if_neg h, List.getD_eq_getElem?_getD, List.getElem?_eq_none (by rw [rowP_len]; omega)]; rfl
theorem dotF_zero {a b : List Int} (h : ∀ k, b.getD k 0 = 0) : ∀ k, dotF a b k = some 0 := by
  intro k
  induction k with
  | zero => rfl
  | succ k ih =>
    have := dotF_yes ih (by rw [h, Int.mul_zero]; unfold W128; omega)
    rw [h, Int.mul_zero] at this
    exact this
theorem innF_zero (l : List Int) (n W : Nat) : ∀ r, innF l (zs n) W r = some 0 := by
  intro r
  induction r with
  | zero => rfl
  | succ r ih =>
    have hd := dotF_zero (a := rowP l W r) (b := rowP (zs n) W r) (fun k => by rw [rowP_getD]; split <;> first | exact zs_getD' _ _ | rfl) W
    simp only [innF, ih, hd, Option.bind_some]
    simp
theorem V0 : innV (some 0) = .tuple #[.agg #[.int .i64 0, .int .u64 0], .int .i64 0] := rfl
set_option maxRecDepth 20000 in
set_option maxHeartbeats 8000000 in
theorem InnerUnlikeL_c (x : Cfg) (hx : x.Raw) (y : Cfg) (hy : y.Raw) (lx ly : Int) (hlx : I64 lx) (hly : I64 ly) (w : World) :
    Calls Try.prog 13 #[.agg #[.int .i64 x.bits, .int .i64 x.rows, .int .i64 x.width, .int .i64 x.mode, .int .u64 x.seed], .agg #[.int .i64 y.bits, .int .i64 y.rows, .int .i64 y.width, .int .i64 y.mode, .int .u64 y.seed], .agg #[.int .i64 lx, .int .i64 ly]] w fun e w' => e = .returned (.bool true) ∧ Ext w w' := by
  go_enter Try.func13, Try.ntmps13
  go_wp2_with fail
  refine (shown11_c _).mono ?_
  rintro e w1 ⟨rfl, hb1⟩
  have hE1 : Ext w w1 := by (repeat' (first | exact Ext.refl _ | assumption | apply Ext.allocR | apply Ext.drewR | apply Ext.drewNR | (refine Ext.trans' ?_ (by assumption))))
  have hPx : CfgAt w1 w.heap.size x := ((CfgAt.box x 24 rfl).ext ((Ext.alloc' _ _).allocR _)).ext hb1
  have hPy : CfgAt w1 (w.heap.size + 1) y := ((CfgAt.box y 24 (by rw [size_alloc])).ext (Ext.alloc' _ _)).ext hb1
  have hl0 : w1.cell? ⟨w.heap.size + 2, 0, none⟩ = some (.int .i64 lx) := (cell_of (hb1.keep (heap_at _ _ (by rw [size_alloc, size_alloc]))) 0).trans rfl
  have hl1 : w1.cell? ⟨w.heap.size + 2, 1, none⟩ = some (.int .i64 ly) := (cell_of (hb1.keep (heap_at _ _ (by rw [size_alloc, size_alloc]))) 1).trans rfl
  have hll : w.heap.size + 2 < w1.heap.size := lt_of (hb1.keep (heap_at _ _ (by rw [size_alloc, size_alloc])))
  clear hb1
  have d0 := hPx.c0
  have d1 := hPx.c1
  have d2 := hPx.c2
  have d3 := hPx.c3
  have d4 := hPx.c4
  have dl := hPx.lt
  go_wp2_with fail
  refine Calls.mono (Any_c x hx 8 9 (by decide) (by decide) (by decide) (by decide) _) ?_
  rintro e w2 ⟨rfl, hx2⟩
  have hE2 : Ext w1 w2 := by (repeat' (first | exact Ext.refl _ | assumption | apply Ext.allocR | apply Ext.drewR | apply Ext.drewNR | (refine Ext.trans' ?_ (by assumption))))
  clear hx2 d0 d1 d2 d3 d4 dl
  have hPy2 := hPy.ext hE2
  have d0 := hPy2.c0
  have d1 := hPy2.c1
  have d2 := hPy2.c2
  have d3 := hPy2.c3
  have d4 := hPy2.c4
  have dl := hPy2.lt
  have hC : CfgAt (w2.alloc (.cells #[.int .i64 (mkC x 8 9).bits, .int .i64 (mkC x 8 9).rows, .int .i64 (mkC x 8 9).width, .int .i64 (mkC x 8 9).mode, .int .u64 (mkC x 8 9).seed] 24)) w2.heap.size (mkC x 8 9) := CfgAt.box _ _ rfl
  go_wp2_with fail
  refine Calls.mono (Any_c y hy 8 9 (by decide) (by decide) (by decide) (by decide) _) ?_
  rintro e w3 ⟨rfl, hx3⟩
  have hC3 := hC.ext hx3
  have hE3 : Ext w2 w3 := by (repeat' (first | exact Ext.refl _ | assumption | apply Ext.allocR | apply Ext.drewR | apply Ext.drewNR | (refine Ext.trans' ?_ (by assumption))))
  have hD : CfgAt (w3.alloc (.cells #[.int .i64 (mkC y 8 9).bits, .int .i64 (mkC y 8 9).rows, .int .i64 (mkC y 8 9).width, .int .i64 (mkC y 8 9).mode, .int .u64 (mkC y 8 9).seed] 24)) w3.heap.size (mkC y 8 9) := CfgAt.box _ _ rfl
  have p0 := ((bcell (hE2.trans' hE3)).1 _ 0 hll).trans hl0
  have p2 := ((bcell (hE2.trans' hE3)).1 _ 1 hll).trans hl1
  have p1 : w.heap.size + 2 < w3.heap.size := Nat.lt_of_lt_of_le hll (hE2.trans' hE3).size
  clear hx3 d0 d1 d2 d3 d4 dl hPy2 hC hl0 hl1 hll
  have okC := mkC_ok x hx.s (nb := 8) (nw := 9) (by decide) (by decide) (by decide) (by decide)
  have okD := mkC_ok y hy.s (nb := 8) (nw := 9) (by decide) (by decide) (by decide) (by decide)
  have hEw : Ext w w3 := hE1.trans' (hE2.trans' hE3)
  generalize mkC x 8 9 = C at *
  generalize mkC y 8 9 = D at *
  have hax := and16 lx
  have hay := and16 ly
  have n1 := Int.emod_nonneg lx (show (65536 : Int) ≠ 0 by decide)
  have n2 := Int.emod_nonneg ly (show (65536 : Int) ≠ 0 by decide)
  have n3 := Int.emod_lt_of_pos lx (show (0 : Int) < 65536 by decide)
  have n4 := Int.emod_lt_of_pos ly (show (0 : Int) < 65536 by decide)
  have bb1 := okC.b1
  have bb2 := okC.b2
  have bb3 := okD.b1
  have bb4 := okD.b2
  have i1 := Int.emod_nonneg (lx % 65536) (show C.bits + 1 ≠ 0 by omega)
  have i2 := Int.emod_lt_of_pos (lx % 65536) (show 0 < C.bits + 1 by omega)
  have i3 := Int.emod_nonneg (ly % 65536) (show D.bits + 1 ≠ 0 by omega)
  have i4 := Int.emod_lt_of_pos (ly % 65536) (show 0 < D.bits + 1 by omega)
  have p4 := hC3.c0
  have p5 := hC3.lt
  have q1 := hC3.c1
  have q2 := hC3.c2
  have q3 := hC3.c3
  have q4 := hC3.c4
  have z1 : (C.bits + 1 == 0) = false := by simp; omega
  have z2 : (D.bits + 1 == 0) = false := by simp; omega
  obtain ⟨R, hR⟩ : ∃ R : Nat, C.rows = R := ⟨C.rows.toNat, by have := okC.r1; omega⟩
  obtain ⟨W, hW⟩ : ∃ W : Nat, C.width = W := ⟨C.width.toNat, by have := okC.w1; omega⟩
  obtain ⟨R2, hR2⟩ : ∃ R : Nat, D.rows = R := ⟨D.rows.toNat, by have := okD.r1; omega⟩
  obtain ⟨W2, hW2⟩ : ∃ W : Nat, D.width = W := ⟨D.width.toNat, by have := okD.w1; omega⟩
  have HR := Lib.hid hR
  have HW := Lib.hid hW
  have HR2 := Lib.hid hR2
  have HW2 := Lib.hid hW2
  clear hR hW hR2 hW2
  go_wp2_with fail
  generalize lx % 65536 % (C.bits + 1) = I at *
  generalize ly % 65536 % (D.bits + 1) = J at *
  have HC3 := Lib.hid hC3
  have HD := Lib.hid hD
  have hEB : Ext w3 (w3.alloc (.cells #[.int .i64 D.bits, .int .i64 D.rows, .int .i64 D.width, .int .i64 D.mode, .int .u64 D.seed] 24)) := Ext.alloc' _ _
  clear hPx hPy hC3 hD hax hay n1 n2 n3 n4 p0 p1 p2 p4 p5 q1 q2 q3 q4 z1 z2 hE1 hE2 hE3
  generalize w3.alloc (.cells #[.int .i64 D.bits, .int .i64 D.rows, .int .i64 D.width, .int .i64 D.mode, .int .u64 D.seed] 24) = wB at *
  have hCB := HC3.out.ext hEB
  have hEwB : Ext w wB := hEw.trans' hEB
  have HCB := Lib.hid hCB
  clear hCB HC3 hEB hEw
  refine Calls.mono (SNew_c C okC I i1 (by omega) R W HR.out HW.out _) ?_
  rintro e w4 ⟨s, b, c, rfl, hS, hs, hb, hc, hx4⟩
  have hE4 : Ext wB w4 := by (repeat' (first | exact Ext.refl _ | assumption | apply Ext.allocR | apply Ext.drewR | apply Ext.drewNR | (refine Ext.trans' ?_ (by assumption))))
  have hD4 := HD.out.ext hE4
  have d0 := hD4.c0
  have d1 := hD4.c1
  have d2 := hD4.c2
  have d3 := hD4.c3
  have d4 := hD4.c4
  have dl := hD4.lt
  clear hx4 hD4
  go_wp2_with fail
  refine Calls.mono (SNew_c D okD J i3 (by omega) R2 W2 HR2.out HW2.out _) ?_
  rintro e w5 ⟨s2, b2, c2, rfl, hS2, hs2, hb2, hc2, hx5⟩
  have hE5 : Ext w4 w5 := by (repeat' (first | exact Ext.refl _ | assumption | apply Ext.allocR | apply Ext.drewR | apply Ext.drewNR | (refine Ext.trans' ?_ (by assumption))))
  have hS5 := hS.ext hE5
  have hE45 := hE4.trans' hE5
  have hC5 := HCB.out.ext hE45
  have hD5 := HD.out.ext hE45
  have hEw5 := hEwB.trans' hE45
  obtain ⟨ub, want, hInn, hub⟩ : ∃ (ub : Bool) (want : Int), (∀ w' : World, Ext w5 w' → Calls Try.prog 37 #[.pointer (some ⟨s, 0, none⟩), .pointer (some ⟨s2, 0, none⟩)] w' fun e w'' => e = .returned (.tuple #[.agg #[.int .i64 0, .int .u64 0], .int .i64 want]) ∧ Ext w' w'') ∧ ((ub = true ∧ PartsAt C I D J ∧ want = 5) ∨ (ub = false ∧ C = D ∧ I = J ∧ (C.mode != 1) = true ∧ want = 3) ∨ (ub = false ∧ C = D ∧ I = J ∧ (C.mode != 1) = false ∧ want = 0)) := by
    rcases parts_or C I D J with ⟨h1, h2⟩ | hp
    · have hRR : R2 = R := by have h3 := HR.out; have h4 := HR2.out; rw [h1] at h3; omega
      have hWW : W2 = W := by have h3 := HW.out; have h4 := HW2.out; rw [h1] at h3; omega
      subst h1 h2 hRR hWW
      by_cases hm : C.mode = 1
      · refine ⟨false, 0, fun w' hE' => ?_, .inr (.inr ⟨rfl, rfl, rfl, by simp [hm], rfl⟩)⟩
        have := Inner_c s b c s2 b2 c2 C I _ _ _ _ w' (hS5.ext hE') (hS2.ext hE') hm
        rw [innF_zero, V0] at this
        exact this
      · exact ⟨false, 3, fun w' hE' => Inner_mode s b c s2 b2 c2 C I _ _ _ _ w' (hS5.ext hE') (hS2.ext hE') hm, .inr (.inl ⟨rfl, rfl, rfl, by simpa using hm, rfl⟩)⟩
    · exact ⟨true, 5, fun w' hE' => Inner_unlike s b c s2 b2 c2 C D I J R W R2 W2 _ _ w' (hS5.ext hE') (hS2.ext hE') hp, .inl ⟨rfl, hp, rfl⟩⟩
  have HINN := Lib.hid hInn
  have HUB := Lib.hid hub
  have c0 := hC5.c0
  have c1 := hC5.c1
  have c2' := hC5.c2
  have c3 := hC5.c3
  have c4 := hC5.c4
  have cl := hC5.lt
  have e0 := hD5.c0
  have e1 := hD5.c1
  have e2 := hD5.c2
  have e3 := hD5.c3
  have e4 := hD5.c4
  have el := hD5.lt
  clear hx5 d0 d1 d2 d3 d4 dl hS hS2 hE5 hE4 hE45 hS5 HCB HD hEwB hC5 hD5 hInn hub
  go_upto_region 11 with (fail)
  go_cut [75] (fun s75 wx => s75 = .bool ub ∧ wx = w5)
  case first =>
    rcases HUB.out with ⟨rfl, hp, _⟩ | ⟨rfl, rfl, rfl, _⟩ | ⟨rfl, rfl, rfl, _⟩
    · cases hp
      all_goals
        go_wp2_with fail
        go_meet
        exact ⟨by first | rfl | simp [bne, *], rfl⟩
    · go_wp2_with fail
      go_meet
      exact ⟨by first | rfl | simp, rfl⟩
    · go_wp2_with fail
      go_meet
      exact ⟨by first | rfl | simp, rfl⟩
  case rest =>
    obtain ⟨rfl, rfl⟩ := hcut
    rcases HUB.out with ⟨rfl, -, rfl⟩ | ⟨rfl, -, -, hm, rfl⟩ | ⟨rfl, -, -, hm, rfl⟩
    all_goals clear HUB
    all_goals
      go_wp2_with fail
      refine Calls.mono (HINN.out _ (by (repeat' (first | exact Ext.refl _ | assumption | apply Ext.allocR | apply Ext.drewR | apply Ext.drewNR | (refine Ext.trans' ?_ (by assumption)))))) ?_
      rintro e w7 ⟨rfl, hx7⟩
      have hE7 : Ext w w7 := hEw5.trans' (by (repeat' (first | exact Ext.refl _ | assumption | apply Ext.allocR | apply Ext.drewR | apply Ext.drewNR | (refine Ext.trans' ?_ (by assumption)))))
      have hnb := heap_at w7 (.cells #[.int .i64 0, .int .u64 0] 56) rfl
      have hE7b : Ext w7 (w7.alloc (.cells #[.int .i64 0, .int .u64 0] 56)) := Ext.alloc' _ _
      go_wp2_with fail
      generalize w7.alloc (.cells #[.int .i64 0, .int .u64 0] 56) = w7b at *
      refine Calls.mono (Inner_nil1 _ _) ?_
      rintro e w8 ⟨rfl, hx8⟩
      go_wp2_with fail
      refine Calls.mono (Inner_nil2 s _) ?_
      rintro e w9 ⟨rfl, hx9⟩
      have hE9 : Ext w7b w9 := by (repeat' (first | exact Ext.refl _ | assumption | apply Ext.allocR | apply Ext.drewR | apply Ext.drewNR | (refine Ext.trans' ?_ (by assumption))))
      obtain ⟨a0, a1, al⟩ := wbox hnb hE9
      have hE99 := hE7.trans' (hE7b.trans' hE9)
      clear hx8 hx9 hnb hE7 hE7b hE9 c0 c1 c2' c3 c4 cl e0 e1 e2 e3 e4 el
      go_wp2
      go_ret
      exact ⟨rfl, by (repeat' (first | exact Ext.refl _ | assumption | apply Ext.allocR | apply Ext.drewR | apply Ext.drewNR | (refine Ext.trans' ?_ (by assumption))))⟩
end Go.Proofs.Ythancaehlijaoaa

/- gaugerlaw11.InnerSums, walked. -/
namespace Go.Proofs.Ythancaehlijaoaa
set_option linter.unusedVariables false
open Go.RowKit

theorem UpsAt.mod {S : Nat → Prop} {w w' : World} {p : Option Addr} {n c : Nat} {us : List (Int × Int)} (h : UpsAt w (.slice p n c) us) (hm : Mod S w w') (hne : ∀ g off, p = some ⟨g, off, none⟩ → ¬ S g) : UpsAt w' (.slice p n c) us := by
  rcases h with h | ⟨g, off, cap, hv, hg, hc⟩
  · exact .inl h
  · have hp : p = some ⟨g, off, none⟩ := (Value.slice.inj hv).1
    refine .inr ⟨g, off, cap, hv, Nat.lt_of_lt_of_le hg hm.size, fun k hk => ?_⟩
    obtain ⟨a1, a2⟩ := hc k hk
    exact ⟨(mcell hm hg (hne g off hp) _).trans a1, (mcell hm hg (hne g off hp) _).trans a2⟩
theorem mixL_skip (f g : Nat → Int) {k n : Nat} : (mixL f g k n).set k (g k) = mixL f g k n := by
  apply List.ext_getElem
  · simp
  · intro i h1 h2
    rw [List.getElem_set]
    split
    · rename_i h
      subst h
      simp [mixL]
    · rfl
set_option maxRecDepth 20000 in
set_option maxHeartbeats 8000000 in
theorem SumsI_c (x : Cfg) (hx : x.Raw) (lv : Int) (hlv : I64 lv) (us : List (Int × Int)) (hus : UpsOk us) (v : Value) (ms : List (Int × Int)) (hms : UpsOk ms) (v' : Value) (w : World) (hv : UpsAt w v us) (hul : us.length ≤ 140737488355328) (hv' : UpsAt w v' ms) (hml : ms.length ≤ 140737488355328) :
    Calls Try.prog 10 #[.agg #[.int .i64 x.bits, .int .i64 x.rows, .int .i64 x.width, .int .i64 x.mode, .int .u64 x.seed, .int .i64 lv, v, v']] w fun e w' => e = .returned (.bool true) ∧ Ext w w' := by
  obtain ⟨vp, vc, rfl⟩ := hv.sl
  obtain ⟨mp, mc, rfl⟩ := hv'.sl
  have HV := Lib.hid hv
  have HM := Lib.hid hv'
  clear hv hv'
  go_enter Try.func10, Try.ntmps10
  go_wp2_with fail
  refine (shown11_c _).mono ?_
  rintro e w1 ⟨rfl, hb1⟩
  have hE1 : Ext w w1 := by (repeat' (first | exact Ext.refl _ | assumption | apply Ext.allocR | apply Ext.drewR | apply Ext.drewNR | (refine Ext.trans' ?_ (by assumption))))
  have hT1 : TwoAt w1 w.heap.size x lv (.slice vp us.length vc) (.slice mp ms.length mc) := (TwoAt.of (t := 60) (heap_at _ _ rfl)).ext hb1
  clear hb1
  have d0 := hT1.c.c0
  have d1 := hT1.c.c1
  have d2 := hT1.c.c2
  have d3 := hT1.c.c3
  have d4 := hT1.c.c4
  have dl := hT1.c.lt
  go_wp2_with fail
  refine Calls.mono (Any_c x hx 8 9 (by decide) (by decide) (by decide) (by decide) _) ?_
  rintro e w2 ⟨rfl, hx2⟩
  have hE2 : Ext w1 w2 := by (repeat' (first | exact Ext.refl _ | assumption | apply Ext.allocR | apply Ext.drewR | apply Ext.drewNR | (refine Ext.trans' ?_ (by assumption))))
  have hT2 := hT1.ext hE2
  clear hx2 d0 d1 d2 d3 d4 dl
  have hC : CfgAt (w2.alloc (.cells #[.int .i64 (mkC x 8 9).bits, .int .i64 (mkC x 8 9).rows, .int .i64 (mkC x 8 9).width, .int .i64 1, .int .u64 (mkC x 8 9).seed] 24)) w2.heap.size (tcfg x 8) := CfgAt.box (tcfg x 8) _ rfl
  have okC := tcfg_ok x hx.s (nb := 8) (by decide) (by decide)
  have hEw : Ext w w2 := hE1.trans' hE2
  have hCm : (tcfg x 8).mode = 1 := rfl
  have eb : (mkC x 8 9).bits = (tcfg x 8).bits := rfl
  have er : (mkC x 8 9).rows = (tcfg x 8).rows := rfl
  have ew : (mkC x 8 9).width = (tcfg x 8).width := rfl
  have es : (mkC x 8 9).seed = (tcfg x 8).seed := rfl
  rw [eb, er, ew, es] at hC
  have d5 := hT2.c5
  have dl := hT2.c.lt
  have hax := and16 lv
  have n1 := Int.emod_nonneg lv (show (65536 : Int) ≠ 0 by decide)
  have n3 := Int.emod_lt_of_pos lv (show (0 : Int) < 65536 by decide)
  have bb1 := okC.b1
  have bb2 := okC.b2
  have i1 := Int.emod_nonneg (lv % 65536) (show (tcfg x 8).bits + 1 ≠ 0 by omega)
  have i2 := Int.emod_lt_of_pos (lv % 65536) (show 0 < (tcfg x 8).bits + 1 by omega)
  have z1 : ((tcfg x 8).bits + 1 == 0) = false := by simp; omega
  rw [eb, er, ew, es]
  clear eb er ew es
  generalize tcfg x 8 = C at *
  obtain ⟨R, hR⟩ : ∃ R : Nat, C.rows = R := ⟨C.rows.toNat, by have := okC.r1; omega⟩
  obtain ⟨W, hW⟩ : ∃ W : Nat, C.width = W := ⟨C.width.toNat, by have := okC.w1; omega⟩
  have HR := Lib.hid hR
  have HW := Lib.hid hW
  have HCM := Lib.hid hCm
  have hEB : Ext w2 (w2.alloc (.cells #[.int .i64 C.bits, .int .i64 C.rows, .int .i64 C.width, .int .i64 1, .int .u64 C.seed] 24)) := Ext.alloc' _ _
  have HT2 := Lib.hid hT2
  clear hR hW hCm hT1 hT2 hE1 hE2
  go_wp2_with fail
  generalize hLe : lv % 65536 % (C.bits + 1) = LV at *
  have lb2 : LV ≤ C.bits := by omega
  have HC := Lib.hid hC
  clear hax n1 n3 d5 dl i2 z1 hC hLe
  generalize w2.alloc (.cells #[.int .i64 C.bits, .int .i64 C.rows, .int .i64 C.width, .int .i64 1, .int .u64 C.seed] 24) = wB at *
  have hTB := HT2.out.ext hEB
  have hEwB := hEw.trans' hEB
  have HTB := Lib.hid hTB
  clear hTB HT2 hEB hEw
  have hSN := fun w' : World => SNew_c C okC LV i1 lb2 R W HR.out HW.out w'
  simp only [HCM.out] at hSN
  refine (hSN _).mono ?_
  clear hSN
  rintro e w3 ⟨s, b, c, rfl, hS, hs, hb, hc, hx3⟩
  have hE3 : Ext wB w3 := by (repeat' (first | exact Ext.refl _ | assumption | apply Ext.allocR | apply Ext.drewR | apply Ext.drewNR | (refine Ext.trans' ?_ (by assumption))))
  have hC3 := HC.out.ext hE3
  have c0 := hC3.c0
  have c1 := hC3.c1
  have c2' := hC3.c2
  have c3 := hC3.c3
  have c4 := hC3.c4
  have cl := hC3.lt
  have hlt1 := hS.lts
  have hlt2 := hS.g.ltb
  have hlt3 := hS.g.ltc
  have hsB := hEwB.size
  have hs3 := hE3.size
  clear hx3
  go_wp2_with fail
  refine (SNew_c C okC LV i1 lb2 R W HR.out HW.out _).mono ?_
  rintro e w4 ⟨s2, b2, c2, rfl, hS2, hs2, hb2, hc2, hx4⟩
  have hE4 : Ext w3 w4 := by (repeat' (first | exact Ext.refl _ | assumption | apply Ext.allocR | apply Ext.drewR | apply Ext.drewNR | (refine Ext.trans' ?_ (by assumption))))
  clear c0 c1 c2' c3 c4 cl hx4
  have hC4 := hC3.ext hE4
  have c0 := hC4.c0
  have c1 := hC4.c1
  have c2' := hC4.c2
  have c3 := hC4.c3
  have c4 := hC4.c4
  have cl := hC4.lt
  have hlt4 := hS2.lts
  have hlt5 := hS2.g.ltb
  have hlt6 := hS2.g.ltc
  have hs4 := hE4.size
  have hE4' := hE3.trans' hE4
  have hT4 := HTB.out.ext hE4'
  have hEw4 := hEwB.trans' hE4'
  have hA4 := hS.ext hE4
  have hltT := hT4.c.lt
  have hltTw := HTB.out.c.lt
  have hltC := HC.out.lt
  have d6 := hT4.c6
  have d7 := hT4.c7
  have HA4 := Lib.hid hA4
  have HB4 := Lib.hid hS2
  have HC4 := Lib.hid hC4
  have HT4 := Lib.hid hT4
  have lb1 := i1
  have hU4 := UpsAt.ext HV.out hEw4
  have hM4 := UpsAt.ext HM.out hEw4
  have HU4 := Lib.hid hU4
  have HM4 := Lib.hid hM4
  clear hS hS2 hC3 hC4 hT4 hA4 HC HTB hE3 hE4 hE4' hU4 hM4
  go_wp2_with fail
  refine Calls.mono (plain_c C okC LV lb1 lb2 us hus _ _ (HU4.out.ext (by (repeat' (first | exact Ext.refl _ | assumption | apply Ext.allocR | apply Ext.drewR | apply Ext.drewNR | (refine Ext.trans' ?_ (by assumption)))))) hul) ?_
  rintro e w5 ⟨z1', rfl, hz1, hf1, hx5⟩
  have hE5 : Ext w4 w5 := hx5
  have hC5 := HC4.out.ext hE5
  have hT5 := HT4.out.ext hE5
  clear c0 c1 c2' c3 c4 cl d6 d7 hx5
  have c0 := hC5.c0
  have c1 := hC5.c1
  have c2' := hC5.c2
  have c3 := hC5.c3
  have c4 := hC5.c4
  have cl := hC5.lt
  have d7 := hT5.c7
  have dl := hT5.c.lt
  go_wp2_with fail
  refine Calls.mono (plain_c C okC LV lb1 lb2 ms hms _ _ ((HM4.out.ext hE5).ext (by (repeat' (first | exact Ext.refl _ | assumption | apply Ext.allocR | apply Ext.drewR | apply Ext.drewNR | (refine Ext.trans' ?_ (by assumption)))))) hml) ?_
  rintro e w6 ⟨z2', rfl, hz2, hf2, hx6⟩
  have hE6 : Ext w5 w6 := hx6
  have hz1 := hz1.ext hE6
  have hC6 := hC5.ext hE6
  have hA6 := HA4.out.ext (hE5.trans' hE6)
  have hB6 := HB4.out.ext (hE5.trans' hE6)
  have hEw6 := hEw4.trans' (hE5.trans' hE6)
  obtain ⟨lp1, lc1, rfl⟩ := hz1.sl
  obtain ⟨lp2, lc2, rfl⟩ := hz2.sl
  have hP1 : (plainP C LV (fus us 0 30)).length ≤ 30 := by rw [plainP_len]; exact fus_len us 0 30
  have hP2 : (plainP C LV (fus ms 0 30)).length ≤ 30 := by rw [plainP_len]; exact fus_len ms 0 30
  have hm1 := fun p (hp : p ∈ plainP C LV (fus us 0 30)) => plain_mem okC lb1 hp
  have hm2 := fun p (hp : p ∈ plainP C LV (fus ms 0 30)) => plain_mem okC lb1 hp
  have hrow := fun r (hrr : r < R) => row_pairs C okC LV R W HR.out HW.out (by rw [HCM.out]; decide) (fus us 0 30) (fus ms 0 30) lb1 hrr
  generalize plainP C LV (fus us 0 30) = PA at *
  generalize plainP C LV (fus ms 0 30) = PB at *
  have HP1 := Lib.hid hm1
  have HP2 := Lib.hid hm2
  have HROW := Lib.hid hrow
  have HZ1 := Lib.hid hz1
  have HZ2 := Lib.hid hz2
  have HA6 := Lib.hid hA6
  have HB6 := Lib.hid hB6
  have HC6 := Lib.hid hC6
  have hs5 := hE5.size
  have hs6 := hE6.size
  have HF1 : Hid (∀ g, lp1 = some ⟨g, 0, none⟩ → True) := Lib.hid (fun _ _ => trivial)
  clear HF1
  have HF1 := Lib.hid hf1
  have HF2 := Lib.hid hf2
  clear hm1 hm2 hrow hz1 hz2 hA6 hB6 hC6 hE5 hE6 hf1 hf2 c0 c1 c2' c3 c4 cl d7 dl hC5 hT5 HU4 HM4 HA4 HB4 HC4 HT4 hx6
  go_wp2_with fail
  go_loopw [12] (fun u wr => ∃ k : Nat, k ≤ PA.length ∧ u = .int .i64 k ∧ Mod (fun i => i = c) w6 wr ∧ SAt wr s b c C LV R W (feed C LV R W (PA.take k) (zs (R * W)))) (fun u _ => PA.length - (intOf u).toNat)
  case atStart => exact ⟨0, Nat.zero_le _, rfl, Mod.refl _ _, HA6.out⟩
  case round =>
    obtain ⟨k, hkl, rfl, hM, hSr⟩ := hrel
    by_cases hgo : k < PA.length
    · obtain ⟨ug, off, rfl, hul0, e0', e1'⟩ := HZ1.out.one hgo
      have hugc : ug ≠ c := by have := HF1.out ug rfl; omega
      have e0 := (mcell hM (b := ug) hul0 hugc _).trans e0'
      have e1 := (mcell hM (b := ug) hul0 hugc _).trans e1'
      have hulr : ug < wr.heap.size := Nat.lt_of_lt_of_le hul0 hM.size
      obtain ⟨m1, m2, m3, m4⟩ := HP1.out _ (List.getElem_mem hgo)
      have hfs : feed C LV R W (PA.take (k + 1)) (zs (R * W)) = updL C LV R W (feed C LV R W (PA.take k) (zs (R * W))) PA[k].1 PA[k].2 := by
        rw [List.take_succ_eq_append_getElem hgo, feed_snoc]
        have e1 : cutK C LV PA[k].1 = PA[k].1 := Int.emod_eq_of_lt m1 m2
        have e2 : cutD C.mode PA[k].2 = PA[k].2 := by
          unfold cutD
          rw [HCM.out]
          exact Int.tmod_eq_of_lt m3 (by omega)
        rw [e1, e2]
      have hB := feed_bnd C LV R W (PA.take k)
      have hlk : (PA.take k).length ≤ 30 := by rw [List.length_take]; omega
      generalize feed C LV R W (PA.take k) (zs (R * W)) = l at *
      generalize PA[k] = uu at *
      obtain ⟨uk, ud⟩ := uu
      have herr : errU C LV R W l uk ud = 0 := upd_ok (T := 1099511627776) hB (by omega) (by omega) (by omega) (by omega) m2 (fun h => by rw [HCM.out] at h; exact absurd h (by decide))
      have HERR := Lib.hid herr
      have HFS := Lib.hid hfs
      have HSR := Lib.hid hSr
      clear e0' e1' hB herr hfs hSr
      go_wp2_with fail
      refine wp_region_after_tail 11 (by kernel_rfl) (by kernel_rfl) ?_
      simp only [List.take_succ_cons, List.take_zero, List.drop_succ_cons, List.drop_zero]
      repeat (go_big_quiet_step (fail))
      refine wpQuiet_nil ?_
      rintro _ ⟨xx, rfl⟩
      obtain ⟨wt, hbt⟩ := xx
      try dsimp only
      go_wp2_with fail
      refine Calls.mono (Update_c s b c C LV R W l uk ud _ (HSR.out.ext ?hx) (by unfold I64; omega) m1) ?_
      case hx => (repeat' (first | exact Ext.refl _ | assumption | apply Ext.allocR | apply Ext.drewR | apply Ext.drewNR | (refine Ext.trans' ?_ (by assumption))))
      intro e wu hup
      obtain ⟨rfl, hSu, hMu⟩ := updpost hup HERR.out
      go_wp2_with fail
      go_roundw
      case rel => exact ⟨k + 1, by omega, by go_num, (hM.trans (Ext.mod _ hbt)).trans hMu, by rw [HFS.out]; exact hSu⟩
      case measure => simp [intOf]; omega
    · obtain rfl : k = PA.length := by omega
      rw [List.take_length] at hSr
      have hE7 : Ext w wr := Below.trans hEw6 (hM.below (B := w.heap.size) (by omega) (fun i hi => by omega))
      have hC7 := HC6.out.mod hM (show ¬ (w2.heap.size = c) by omega)
      have hB7 := HB6.out.mod hM (by omega) (by omega) (by omega)
      have hZ17 : UpsAt wr (.slice lp1 PA.length lc1) PA := UpsAt.mod HZ1.out hM (fun g off hg => by have := HF1.out g (by rw [hg]; rfl); omega)
      have hZ27 : UpsAt wr (.slice lp2 PB.length lc2) PB := UpsAt.mod HZ2.out hM (fun g off hg => by have := HF2.out g (by rw [hg]; rfl); omega)
      have hMs := hM.size
      have HA7 := Lib.hid hSr
      have HB7 := Lib.hid hB7
      have HC7 := Lib.hid hC7
      have HZ17 := Lib.hid hZ17
      have HZ27 := Lib.hid hZ27
      rename World => w7
      have hEw7 : Ext w w7 := hE7
      clear hSr hM hC7 hB7 hZ17 hZ27 hE7 HA6 HB6 HC6 HZ1 HZ2
      go_wp2_with fail
      go_loopw [13] (fun u wr => ∃ k : Nat, k ≤ PB.length ∧ u = .int .i64 k ∧ Mod (fun i => i = c2) w7 wr ∧ SAt wr s2 b2 c2 C LV R W (feed C LV R W (PB.take k) (zs (R * W)))) (fun u _ => PB.length - (intOf u).toNat)
      case atStart => exact ⟨0, Nat.zero_le _, rfl, Mod.refl _ _, HB7.out⟩
      case round =>
        obtain ⟨k, hkl, rfl, hM, hSr⟩ := hrel
        by_cases hgo : k < PB.length
        · obtain ⟨ug, off, rfl, hul0, e0', e1'⟩ := HZ27.out.one hgo
          have hugc : ug ≠ c2 := by have := HF2.out ug rfl; omega
          have e0 := (mcell hM (b := ug) hul0 hugc _).trans e0'
          have e1 := (mcell hM (b := ug) hul0 hugc _).trans e1'
          have hulr : ug < wr.heap.size := Nat.lt_of_lt_of_le hul0 hM.size
          obtain ⟨m1, m2, m3, m4⟩ := HP2.out _ (List.getElem_mem hgo)
          have hfs : feed C LV R W (PB.take (k + 1)) (zs (R * W)) = updL C LV R W (feed C LV R W (PB.take k) (zs (R * W))) PB[k].1 PB[k].2 := by
            rw [List.take_succ_eq_append_getElem hgo, feed_snoc]
            have e1 : cutK C LV PB[k].1 = PB[k].1 := Int.emod_eq_of_lt m1 m2
            have e2 : cutD C.mode PB[k].2 = PB[k].2 := by
              unfold cutD
              rw [HCM.out]
              exact Int.tmod_eq_of_lt m3 (by omega)
            rw [e1, e2]
          have hB := feed_bnd C LV R W (PB.take k)
          have hlk : (PB.take k).length ≤ 30 := by rw [List.length_take]; omega
          generalize feed C LV R W (PB.take k) (zs (R * W)) = l at *
          generalize PB[k] = uu at *
          obtain ⟨uk, ud⟩ := uu
          have herr : errU C LV R W l uk ud = 0 := upd_ok (T := 1099511627776) hB (by omega) (by omega) (by omega) (by omega) m2 (fun h => by rw [HCM.out] at h; exact absurd h (by decide))
          have HERR := Lib.hid herr
          have HFS := Lib.hid hfs
          have HSR := Lib.hid hSr
          clear e0' e1' hB herr hfs hSr
          go_wp2_with fail
          refine wp_region_after_tail 11 (by kernel_rfl) (by kernel_rfl) ?_
          simp only [List.take_succ_cons, List.take_zero, List.drop_succ_cons, List.drop_zero]
          repeat (go_big_quiet_step (fail))
          refine wpQuiet_nil ?_
          rintro _ ⟨xx, rfl⟩
          obtain ⟨wt, hbt⟩ := xx
          try dsimp only
          go_wp2_with fail
          refine Calls.mono (Update_c s2 b2 c2 C LV R W l uk ud _ (HSR.out.ext ?hx) (by unfold I64; omega) m1) ?_
          case hx => (repeat' (first | exact Ext.refl _ | assumption | apply Ext.allocR | apply Ext.drewR | apply Ext.drewNR | (refine Ext.trans' ?_ (by assumption))))
          intro e wu hup
          obtain ⟨rfl, hSu, hMu⟩ := updpost hup HERR.out
          go_wp2_with fail
          go_roundw
          case rel => exact ⟨k + 1, by omega, by go_num, (hM.trans (Ext.mod _ hbt)).trans hMu, by rw [HFS.out]; exact hSu⟩
          case measure => simp [intOf]; omega
        · obtain rfl : k = PB.length := by omega
          rw [List.take_length] at hSr
          have hE8 : Ext w wr := Below.trans hEw7 (hM.below (B := w.heap.size) (by omega) (fun i hi => by omega))
          have hC8 := HC7.out.mod hM (show ¬ (w2.heap.size = c2) by omega)
          have hA8 := HA7.out.mod hM (by omega) (by omega) (by omega)
          have hZ18 : UpsAt wr (.slice lp1 PA.length lc1) PA := UpsAt.mod HZ17.out hM (fun g off hg => by have := HF1.out g (by rw [hg]; rfl); omega)
          have hZ28 : UpsAt wr (.slice lp2 PB.length lc2) PB := UpsAt.mod HZ27.out hM (fun g off hg => by have := HF2.out g (by rw [hg]; rfl); omega)
          have HB8 := Lib.hid hSr
          have HA8 := Lib.hid hA8
          have HC8 := Lib.hid hC8
          have HZ18 := Lib.hid hZ18
          have HZ28 := Lib.hid hZ28
          have hR1 := hA8.g.r1
          have hR8 := hA8.g.r2
          rename World => w8
          have hEw8 : Ext w w8 := hE8
          clear hSr hM hC8 hA8 hZ18 hZ28 hE8 HA7 HB7 HC7 HZ17 HZ27
          go_wp2_with fail
          go_loopw [15, 16] (fun u15 u16 wr => ∃ k : Nat, k ≤ R ∧ u16 = .int .i64 k ∧ wr.ownsRow w8.heap.size 2 1 u15 (zs k).length (ints (zs k)) ∧ Ext w8 wr) (fun _ u16 _ => R - (intOf u16).toNat)
          case atStart => exact ⟨0, Nat.zero_le _, rfl, ⟨rfl, .inl ⟨rfl, rfl⟩⟩, Ext.refl _⟩
          case round =>
            obtain ⟨k, hk, rfl, hrow, hEr⟩ := hrel
            have hCr := HC8.out.ext hEr
            have c1 := hCr.c1
            have cl := hCr.lt
            rw [HR.out] at c1
            have hEs := hEr.size
            by_cases hgo : k < R
            · go_wp2_with (at_builtin; refine wpList_app1 wr 0 _ u15 w8.heap.size 2 hrow 32 rfl _ _ rfl info_i64 Try.underlying32 rfl rfl ?a1 ?a2 ?_)
              case a1 => rw [zs_len]; omega
              case a2 => omega
              intro v' w3' h1 h2 h3
              have hE3 : Ext w8 w3' := ext_grown hEr h2 (fun k' hk' => own_blk hrow hk')
              rw [show zs k ++ [0] = zs (k + 1) from (List.replicate_succ' ..).symm] at h1
              clear h2 h3 hrow hCr
              go_wp2_with fail
              go_roundw
              case rel => exact ⟨k + 1, by omega, by go_num, h1, hE3⟩
              case measure => simp [intOf]; omega
            · obtain rfl : k = R := by omega
              rw [zs_len] at hrow
              obtain ⟨go, capo, curo, rfl, hgob, hgoh, _⟩ := hrow.2.resolve_left (fun h => by omega)
              have hOth : wr.ownsRow w8.heap.size 2 1 (.slice (some ⟨go, 0, none⟩) k capo) k (ints ((List.range k).map fun r => pairS (othPair C LV r) (PA.take 0) PB)) := by
                have e : (List.range k).map (fun r => pairS (othPair C LV r) (PA.take 0) PB) = zs k := by
                  apply List.ext_getElem
                  · simp [zs]
                  · intro i h1 h2
                    simp [zs, pairS_nil]
                rw [e]; exact hrow
              have hE89 := hEr
              have hsz8 := hEr.size
              have hgol := lt_of hgoh
              have HA9 := Lib.hid (HA8.out.ext hEr)
              have HB9 := Lib.hid (HB8.out.ext hEr)
              have HC9 := Lib.hid (HC8.out.ext hEr)
              have HZ19 := Lib.hid (HZ18.out.ext hEr)
              have HZ29 := Lib.hid (HZ28.out.ext hEr)
              have hlA := HA8.out.lts
              have hlAb := HA8.out.g.ltb
              have hlAc := HA8.out.g.ltc
              have hlB := HB8.out.lts
              have hlBb := HB8.out.g.ltb
              have hlBc := HB8.out.g.ltc
              have hlC := HC8.out.lt
              have HOTH := Lib.hid hOth
              have hEw9 := hEw8.trans' hEr
              rename World => w9
              have hEw9' : Ext w w9 := hEw9
              clear hrow hOth hCr hEr hgoh HA8 HB8 HC8 hEw9
              go_wp2_with fail
              clear c1 cl
              have hPl := hP1
              have hQl := hP2
              go_loopw [14, 17] (fun u14 u17 wq => ∃ i : Nat, i ≤ PA.length ∧ u17 = .int .i64 i ∧ u14 = .int .i64 (pairS (fun a b => a == b) (PA.take i) PB) ∧ Mod (fun j => j = go) w9 wq ∧ wq.ownsRow w8.heap.size 2 1 (.slice (some ⟨go, 0, none⟩) k capo) k (ints ((List.range k).map fun r => pairS (othPair C LV r) (PA.take i) PB))) (fun _ u17 _ => PA.length - (intOf u17).toNat)
              case atStart => exact ⟨0, Nat.zero_le _, rfl, rfl, Mod.refl _ _, HOTH.out⟩
              case round =>
                obtain ⟨i, hiP, rfl, rfl, hMq, hoq⟩ := hrel
                by_cases hgo : i < PA.length
                · obtain ⟨ug, off, rfl, hul0, e0', e1'⟩ := HZ18.out.one hgo
                  have hgu : ug ≠ go := by omega
                  have hul9 : ug < w9.heap.size := by omega
                  have e0 := (mcell hMq (b := ug) hul9 hgu _).trans (((bcell hE89).1 ug _ hul0).trans e0')
                  have e1 := (mcell hMq (b := ug) hul9 hgu _).trans (((bcell hE89).1 ug _ hul0).trans e1')
                  have hulq : ug < wr.heap.size := Nat.lt_of_lt_of_le hul9 hMq.size
                  obtain ⟨m1, m2, m3, m4⟩ := HP1.out _ (List.getElem_mem hgo)
                  have hCq := HC9.out.mod hMq (show ¬ (w2.heap.size = go) by omega)
                  have c0 := hCq.c0
                  have c1 := hCq.c1
                  have c2' := hCq.c2
                  have c3 := hCq.c3
                  have c4 := hCq.c4
                  have cl := hCq.lt
                  have hpt := fun f => pairS_take f PA PB hgo
                  generalize hpp0 : PA[i] = pp at *
                  obtain ⟨pk, pd⟩ := pp
                  have HPP := Lib.hid hpp0
                  clear hpp0
                  have h59 : LV ≤ 59 := by have := okC.b2; omega
                  have HOQ := Lib.hid hoq
                  have HPT := Lib.hid hpt
                  clear e0' e1' hoq hpt
                  go_wp2_with fail
                  have hC0 := af_drew wr
                  refine pi_start (fun w' => ∃ x : After wr, w' = x.w) [] (by kernel_rfl) ?_
                  refine pi_t 1 rfl (by kernel_rfl) (by kernel_rfl) (fun _ _ _ _ h => h) (fun K hK => ?_)
                  go_big_quiet_op
                  refine hK _ ?_
                  clear hK K
                  refine pi_t 2 rfl (by kernel_rfl) (by kernel_rfl) (fun _ _ _ _ h => h) (fun K hK => ?_)
                  go_big_quiet_op
                  refine hK _ ?_
                  clear hK K
                  refine pi_t 3 rfl (by kernel_rfl) (by kernel_rfl) (fun _ _ _ _ h => h) (fun K hK => ?_)
                  go_big_quiet_op
                  refine hK _ ?_
                  clear hK K
                  refine pi_t 4 rfl (by kernel_rfl) (by kernel_rfl) (fun _ _ _ _ h => h) (fun K hK => ?_)
                  go_big_quiet_op
                  refine hK _ ?_
                  clear hK K
                  refine pi_t 5 rfl (by kernel_rfl) (by kernel_rfl) (fun _ _ _ _ h => h) (fun K hK => ?_)
                  go_big_quiet_op
                  refine hK _ ?_
                  clear hK K
                  refine pi_c 0 (by assumption) rfl (by kernel_rfl) (by kernel_rfl) (fun _ _ _ _ h => h) (fun K hK => ?_)
                  go_big_quiet_op
                  refine hK _ ?_
                  clear hK K
                  refine pi_c 6 (by assumption) rfl (by kernel_rfl) (by kernel_rfl) (fun _ _ _ _ h => h) (fun K hK => ?_)
                  go_big_quiet_op
                  refine hK _ ?_
                  clear hK K
                  refine pi_l 7 rfl (by kernel_rfl) (fun K hK => ?_)
                  go_wp2_with (go_at_call 20; refine (Columns_c C okC LV pk lb1 lb2 h59 m1 m2 _).mono ?_; rintro e wr1 ⟨vo1, rfl, ho1, hxo1⟩)
                  refine hK _ _ (fun _ h => af_step h hxo1) ?_
                  clear hK K
                  refine pi_t 8 rfl (by kernel_rfl) (by kernel_rfl) (fun _ _ _ _ h => h) (fun K hK => ?_)
                  go_big_quiet_op
                  refine hK _ ?_
                  clear hK K
                  refine pi_end (by kernel_rfl) ?_
                  have hx1' : Ext wr wr1 := Ext.trans' (Below.drew (Ext.refl wr)) hxo1
                  have hM1 : Mod (fun j => j = go) w9 wr1 := hMq.trans (hx1'.mod _)
                  have hkR : C.rows.toNat = k := by have := HR.out; omega
                  obtain ⟨g1, o1, k1, rfl, hgl1, hcl1⟩ := (IntsAt.of_row ho1).slice (by rw [cols_len]; omega)
                  rw [cols_len, hkR] at hcl1 ⊢
                  have hg1go : g1 ≠ go := by
                    have h2 := own_ne ho1 (c := go) (by first | (show go < wr.heap.size; have := hMq.size; omega))
                    exact h2 _ _ _ _ rfl
                  have hoq1 : wr1.ownsRow w8.heap.size 2 1 (.slice (some ⟨go, 0, none⟩) k capo) k (ints ((List.range k).map fun r => pairS (othPair C LV r) (PA.take i) PB)) := own_ext HOQ.out hx1'
                  have HCL1 := Lib.hid hcl1
                  have HM1 := Lib.hid hM1
                  have HOQ1 := Lib.hid hoq1
                  clear c0 c1 c2' c3 c4 cl e0 e1 hCq hcl1 hM1 hoq1 hMq HOQ ho1 hxo1 hx1'
                  go_wp2_with fail
                  go_loopw [14, 19] (fun u14 u19 wq => ∃ j : Nat, j ≤ PB.length ∧ u19 = .int .i64 j ∧ u14 = .int .i64 (pairS (fun a b => a == b) (PA.take i) PB + oneS (fun a b => a == b) (pk, pd) (PB.take j)) ∧ Mod (fun y => y = go) wr1 wq ∧ wq.ownsRow w8.heap.size 2 1 (.slice (some ⟨go, 0, none⟩) k capo) k (ints ((List.range k).map fun r => pairS (othPair C LV r) (PA.take i) PB + oneS (othPair C LV r) (pk, pd) (PB.take j)))) (fun _ u19 _ => PB.length - (intOf u19).toNat)
                  case atStart => exact ⟨0, Nat.zero_le _, rfl, by rw [List.take_zero, oneS_nil, Int.add_zero], Mod.refl _ _, by simp only [List.take_zero, oneS_nil, Int.add_zero]; exact HOQ1.out⟩
                  case round =>
                    obtain ⟨j, hj, rfl, rfl, hMj, hoj⟩ := hrel
                    by_cases hgj : j < PB.length
                    · obtain ⟨um, offm, rfl, hum0, f0', f1'⟩ := HZ28.out.one hgj
                      have humg : um ≠ go := by omega
                      have hum9 : um < w9.heap.size := by omega
                      have hMall := HM1.out.trans hMj
                      have f0 := (mcell hMall (b := um) hum9 humg _).trans (((bcell hE89).1 um _ hum0).trans f0')
                      have f1 := (mcell hMall (b := um) hum9 humg _).trans (((bcell hE89).1 um _ hum0).trans f1')
                      have humq : um < wr.heap.size := Nat.lt_of_lt_of_le hum9 hMall.size
                      obtain ⟨n1, n2, n3, n4⟩ := HP2.out _ (List.getElem_mem hgj)
                      have hCq := HC9.out.mod hMall (show ¬ (w2.heap.size = go) by omega)
                      have c0 := hCq.c0
                      have c1 := hCq.c1
                      have c2' := hCq.c2
                      have c3 := hCq.c3
                      have c4 := hCq.c4
                      have cl := hCq.lt
                      have hot := fun f => oneS_take f (pk, pd) PB hgj
                      generalize PB[j] = qq at *
                      obtain ⟨qk, qd⟩ := qq
                      have HOJ := Lib.hid hoj
                      have HOT := Lib.hid hot
                      have HMJ := Lib.hid hMj
                      clear f0' f1' hoj hot hMj
                      go_wp2_with fail
                      have hC0 := af_drew wr
                      refine pi_start (fun w' => ∃ x : After wr, w' = x.w) [] (by kernel_rfl) ?_
                      refine pi_t 1 rfl (by kernel_rfl) (by kernel_rfl) (fun _ _ _ _ h => h) (fun K hK => ?_)
                      go_big_quiet_op
                      refine hK _ ?_
                      clear hK K
                      refine pi_t 2 rfl (by kernel_rfl) (by kernel_rfl) (fun _ _ _ _ h => h) (fun K hK => ?_)
                      go_big_quiet_op
                      refine hK _ ?_
                      clear hK K
                      refine pi_t 3 rfl (by kernel_rfl) (by kernel_rfl) (fun _ _ _ _ h => h) (fun K hK => ?_)
                      go_big_quiet_op
                      refine hK _ ?_
                      clear hK K
                      refine pi_t 4 rfl (by kernel_rfl) (by kernel_rfl) (fun _ _ _ _ h => h) (fun K hK => ?_)
                      go_big_quiet_op
                      refine hK _ ?_
                      clear hK K
                      refine pi_t 5 rfl (by kernel_rfl) (by kernel_rfl) (fun _ _ _ _ h => h) (fun K hK => ?_)
                      go_big_quiet_op
                      refine hK _ ?_
                      clear hK K
                      refine pi_c 0 (by assumption) rfl (by kernel_rfl) (by kernel_rfl) (fun _ _ _ _ h => h) (fun K hK => ?_)
                      go_big_quiet_op
                      refine hK _ ?_
                      clear hK K
                      refine pi_c 6 (by assumption) rfl (by kernel_rfl) (by kernel_rfl) (fun _ _ _ _ h => h) (fun K hK => ?_)
                      go_big_quiet_op
                      refine hK _ ?_
                      clear hK K
                      refine pi_l 7 rfl (by kernel_rfl) (fun K hK => ?_)
                      go_wp2_with (go_at_call 20; refine (Columns_c C okC LV qk lb1 lb2 h59 n1 n2 _).mono ?_; rintro e wr2 ⟨vo2, rfl, ho2, hxo2⟩)
                      refine hK _ _ (fun _ h => af_step h hxo2) ?_
                      clear hK K
                      refine pi_t 8 rfl (by kernel_rfl) (by kernel_rfl) (fun _ _ _ _ h => h) (fun K hK => ?_)
                      go_big_quiet_op
                      refine hK _ ?_
                      clear hK K
                      refine pi_end (by kernel_rfl) ?_
                      have hx2' : Ext wr wr2 := Ext.trans' (Below.drew (Ext.refl wr)) hxo2
                      obtain ⟨g2, o2, k2, rfl, hgl2, hcl2⟩ := (IntsAt.of_row ho2).slice (by rw [cols_len]; omega)
                      rw [cols_len, hkR] at hcl2 ⊢
                      have hg2go : g2 ≠ go := by
                        have h2 := own_ne ho2 (c := go) (by first | (show go < wr.heap.size; have := hMall.size; omega))
                        exact h2 _ _ _ _ rfl
                      have hM2 : Mod (fun y => y = go) wr1 wr2 := HMJ.out.trans (hx2'.mod _)
                      have hM92 := HM1.out.trans hM2
                      have hoj2 := own_ext HOJ.out hx2'
                      have hC2 := HC9.out.mod hM92 (show ¬ (w2.heap.size = go) by omega)
                      clear c0 c1 c2' c3 c4 cl
                      have c1 := hC2.c1
                      have cl := hC2.lt
                      rw [HR.out] at c1
                      obtain ⟨ug', off', hpe, hulu, e0', e1'⟩ := HZ18.out.one hgo
                      rw [HPP.out] at e0' e1'
                      have f02 := ((bcell hx2').1 um _ humq).trans f0
                      have f12 := ((bcell hx2').1 um _ humq).trans f1
                      have hum2 : um < wr2.heap.size := Nat.lt_of_lt_of_le humq hx2'.size
                      have HCL2 := Lib.hid hcl2
                      have HM2 := Lib.hid hM2
                      have HOJ2 := Lib.hid hoj2
                      clear hcl2 hM2 hoj2 ho2 hxo2 HOJ HMJ f0 f1 hCq hC2 hC0
                      have hpe2 := Option.some.inj hpe
                      simp only [Addr.mk.injEq] at hpe2
                      obtain ⟨rfl, rfl, _⟩ := hpe2
                      have hug9 : ug < w9.heap.size := by omega
                      have e02 := (mcell hM92 (b := ug) hug9 (by omega) _).trans (((bcell hE89).1 ug _ hulu).trans e0')
                      have e12 := (mcell hM92 (b := ug) hug9 (by omega) _).trans (((bcell hE89).1 ug _ hulu).trans e1')
                      have hug2 : ug < wr2.heap.size := Nat.lt_of_lt_of_le hug9 hM92.size
                      clear e0' e1' hpe
                      have hown1 := (pairS_bd (fun a b => a == b) PB (fun q hq => (HP2.out q hq).2.2) hQl (PA.take i) (fun p hp => (HP1.out p (List.mem_of_mem_take hp)).2.2))
                      have hown2 := (oneS_bd (fun a b => a == b) (pk, pd) ⟨m3, m4⟩ (PB.take j) (fun q hq => (HP2.out q (List.mem_of_mem_take hq)).2.2))
                      have hli : (PA.take i).length ≤ 30 := by rw [List.length_take]; omega
                      have hlj : (PB.take j).length ≤ 30 := by rw [List.length_take]; omega
                      have hmul := mul_abs (a := pd) (b := qd) (A := 1048576) (B := 1048576) (by omega) (by omega)
                      have hotE := HOT.out (fun a b => a == b)
                      generalize hO1 : pairS (fun a b => a == b) (PA.take i) PB = O1 at *
                      generalize hO2 : oneS (fun a b => a == b) (pk, pd) (PB.take j) = O2 at *
                      have HOTE := Lib.hid hotE
                      have HO1 := Lib.hid hO1
                      have HO2 := Lib.hid hO2
                      clear hotE hO1 hO2
                      go_wp2_with fail
                      refine wp_region_after (by kernel_rfl) (by kernel_rfl) ?_
                      repeat (go_big_quiet_step (fail))
                      refine wpQuiet_nil ?_
                      rintro _ ⟨xx, rfl⟩
                      obtain ⟨wz, hz⟩ := xx
                      try dsimp only
                      have hMz : Mod (fun y => y = go) wr1 wz := HM2.out.trans (hz.mod _)
                      have hojz := own_ext HOJ2.out hz
                      have HMZ := Lib.hid hMz
                      have HOJZ := Lib.hid hojz
                      have hxz := hz
                      by_cases hkk : pk = qk
                      · have hb : (pk == qk) = true := by simpa using hkk
                        have e02z := ((bcell hz).1 ug _ hug2).trans e02
                        have e12z := ((bcell hz).1 ug _ hug2).trans e12
                        have f02z := ((bcell hz).1 um _ hum2).trans f02
                        have f12z := ((bcell hz).1 um _ hum2).trans f12
                        have hugz : ug < wz.heap.size := Nat.lt_of_lt_of_le hug2 hz.size
                        have humz : um < wz.heap.size := Nat.lt_of_lt_of_le hum2 hz.size
                        clear hMz hojz e02 e12 f02 f12 hkk
                        obtain ⟨pr, hpr⟩ : ∃ pr, pd * qd = pr := ⟨_, rfl⟩
                        rw [hpr] at hmul
                        go_wp2_with fail
                        refine wp_region_after (by kernel_rfl) (by kernel_rfl) ?_
                        repeat (go_big_quiet_step (fail))
                        refine wpQuiet_nil ?_
                        rintro _ ⟨xx, rfl⟩
                        obtain ⟨wy, hy⟩ := xx
                        try dsimp only
                        go_wp2_with fail
                        go_roundw
                        case rel =>
                          have hb' : (fun a b : Int => a == b) pk qk = true := hb
                          refine ⟨j + 1, by omega, by go_num, ?_, HMZ.out.trans (hy.mod _), ?_⟩
                          · rw [HOTE.out, HO1.out]
                            simp only [hb, cond_true, hpr]
                            congr 1
                            omega
                          · have e : (fun r => pairS (othPair C LV r) (PA.take i) PB + oneS (othPair C LV r) (pk, pd) (PB.take (j + 1))) = fun r => pairS (othPair C LV r) (PA.take i) PB + oneS (othPair C LV r) (pk, pd) (PB.take j) := funext fun r => by
                              rw [HOT.out]
                              simp only [othPair, hb, Bool.not_true, Bool.false_and, cond_false, Int.add_zero]
                            rw [e]
                            exact own_ext HOJZ.out hy
                        case measure => simp [intOf]; omega
                      · have hb : (pk == qk) = false := by simpa using hkk
                        have e02z := ((bcell hz).1 ug _ hug2).trans e02
                        have e12z := ((bcell hz).1 ug _ hug2).trans e12
                        have f02z := ((bcell hz).1 um _ hum2).trans f02
                        have f12z := ((bcell hz).1 um _ hum2).trans f12
                        have hugz : ug < wz.heap.size := Nat.lt_of_lt_of_le hug2 hz.size
                        have humz : um < wz.heap.size := Nat.lt_of_lt_of_le hum2 hz.size
                        have c1z := ((bcell hz).1 _ 1 cl).trans c1
                        have clz : w2.heap.size < wz.heap.size := Nat.lt_of_lt_of_le cl hz.size
                        have hC1z : ∀ t, t < k → wz.cell? ⟨g1, o1 + t, none⟩ = some (.int .i64 ((cols C LV pk).getD t 0)) := fun t ht => (mcell HMZ.out (b := g1) hgl1 hg1go _).trans (HCL1.out t ht)
                        have hC2z : ∀ t, t < k → wz.cell? ⟨g2, o2 + t, none⟩ = some (.int .i64 ((cols C LV qk).getD t 0)) := fun t ht => ((bcell hz).1 g2 _ hgl2).trans (HCL2.out t ht)
                        have hg1z : g1 < wz.heap.size := Nat.lt_of_lt_of_le hgl1 hMz.size
                        have hg2z : g2 < wz.heap.size := Nat.lt_of_lt_of_le hgl2 hz.size
                        have hgoz : go < wz.heap.size := Nat.lt_of_lt_of_le hgol (HM1.out.trans hMz).size
                        obtain ⟨pr, hpr⟩ : ∃ pr, pd * qd = pr := ⟨_, rfl⟩
                        rw [hpr] at hmul
                        obtain ⟨BF, hBF⟩ : ∃ BF : Nat → Int, BF = fun r => pairS (othPair C LV r) (PA.take i) PB + oneS (othPair C LV r) (pk, pd) (PB.take j) := ⟨_, rfl⟩
                        obtain ⟨FF, hFF⟩ : ∃ FF : Nat → Int, FF = fun r => BF r + bif (cols C LV qk).getD r 0 == (cols C LV pk).getD r 0 then pr else 0 := ⟨_, rfl⟩
                        have hBb : ∀ r, 0 ≤ BF r ∧ BF r ≤ 1125899906842624 := fun r => by
                          have h1 := (pairS_bd (othPair C LV r) PB (fun q hq => (HP2.out q hq).2.2) hQl (PA.take i) (fun p hp => (HP1.out p (List.mem_of_mem_take hp)).2.2))
                          have h2 := (oneS_bd (othPair C LV r) (pk, pd) ⟨m3, m4⟩ (PB.take j) (fun q hq => (HP2.out q (List.mem_of_mem_take hq)).2.2))
                          rw [hBF]
                          dsimp only
                          omega
                        have hOZ : wz.ownsRow w8.heap.size 2 1 (.slice (some ⟨go, 0, none⟩) k capo) k (ints (mixL FF BF 0 k)) := by
                          rw [mixL_zero, hBF]; exact HOJZ.out
                        have hend : mixL FF BF k k = (List.range k).map fun r => pairS (othPair C LV r) (PA.take i) PB + oneS (othPair C LV r) (pk, pd) (PB.take (j + 1)) := by
                          apply List.map_congr_left
                          intro r hr
                          rw [if_pos (List.mem_range.1 hr), hFF, hBF, HOT.out]
                          simp only [othPair, hb, Bool.not_false, Bool.true_and, hpr]
                          omega
                        have HEND := Lib.hid hend
                        have HBB := Lib.hid hBb
                        have HFF := Lib.hid hFF
                        have HOZ := Lib.hid hOZ
                        have HC1 := Lib.hid hC1z
                        have HC2 := Lib.hid hC2z
                        have HPR := Lib.hid hpr
                        clear hMz hojz e02 e12 f02 f12 hkk hend hBb hFF hOZ hC1z hC2z c1 cl hBF HOJZ HOJ2 HCL1 HCL2 hpr
                        go_wp2_with fail
                        go_loopw [21] (fun u21 wq => ∃ t : Nat, t ≤ k ∧ u21 = .int .i64 t ∧ Mod (fun y => y = go) wz wq ∧ wq.ownsRow w8.heap.size 2 1 (.slice (some ⟨go, 0, none⟩) k capo) k (ints (mixL FF BF t k))) (fun u21 _ => k - (intOf u21).toNat)
                        case atStart => exact ⟨0, Nat.zero_le _, rfl, Mod.refl _ _, HOZ.out⟩
                        case round =>
                          obtain ⟨t, ht, rfl, hMt, hot⟩ := hrel
                          have c1 := (mcell hMt (b := w2.heap.size) clz (by omega) 1).trans c1z
                          have cl : w2.heap.size < wr.heap.size := Nat.lt_of_lt_of_le clz hMt.size
                          by_cases hgt : t < k
                          · have x1 := (mcell hMt (b := g1) hg1z hg1go (o1 + t)).trans (HC1.out t hgt)
                            have x2 := (mcell hMt (b := g2) hg2z hg2go (o2 + t)).trans (HC2.out t hgt)
                            have hg1r : g1 < wr.heap.size := Nat.lt_of_lt_of_le hg1z hMt.size
                            have hg2r : g2 < wr.heap.size := Nat.lt_of_lt_of_le hg2z hMt.size
                            have hgor : go < wr.heap.size := Nat.lt_of_lt_of_le hgoz hMt.size
                            have e1r := (mcell hMt (b := ug) hugz (by omega) _).trans e12z
                            have f1r := (mcell hMt (b := um) humz humg _).trans f12z
                            have hugr : ug < wr.heap.size := Nat.lt_of_lt_of_le hugz hMt.size
                            have humr : um < wr.heap.size := Nat.lt_of_lt_of_le humz hMt.size
                            have hft : FF t = BF t + bif (cols C LV qk).getD t 0 == (cols C LV pk).getD t 0 then pr else 0 := by rw [HFF.out]
                            obtain ⟨pw, pf⟩ := own_cell hot (j := t) (by rw [mixL_len]; exact hgt)
                            rw [mixL_get _ _ hgt, if_neg (Nat.lt_irrefl t)] at pw
                            obtain ⟨bt1, bt2⟩ := HBB.out t
                            have hset := mixL_set FF BF (k := t) (n := k)
                            have hskip := mixL_skip FF BF (k := t) (n := k)
                            generalize (cols C LV pk).getD t 0 = y1 at *
                            generalize (cols C LV qk).getD t 0 = y2 at *
                            generalize BF t = bt at *
                            have HSET := Lib.hid hset
                            have HSKIP := Lib.hid hskip
                            have HFT := Lib.hid hft
                            have HOTR := Lib.hid hot
                            clear hset hskip hft hot
                            by_cases hyy : y1 = y2
                            · have hb2 : (y1 == y2) = true := by simpa using hyy
                              have hb3 : (y2 == y1) = true := by simpa using hyy.symm
                              have hFv : FF t = bt + pr := by rw [HFT.out, hb3]; rfl
                              have HFV := Lib.hid hFv
                              clear hyy hFv hb3
                              go_wp2_with fail
                              refine wp_region_after (by kernel_rfl) (by kernel_rfl) ?_
                              repeat (go_big_quiet_step (fail))
                              refine wpQuiet_nil ?_
                              rintro _ ⟨xx, rfl⟩
                              obtain ⟨wa, hqa⟩ := xx
                              try dsimp only
                              have pwa := ((bcell hqa).1 _ _ hgor).trans pw
                              have pfa := ((bcell hqa).2 _ _ hgor).trans pf
                              have e1a := ((bcell hqa).1 _ _ hugr).trans e1r
                              have f1a := ((bcell hqa).1 _ _ humr).trans f1r
                              have hgoa : go < wa.heap.size := Nat.lt_of_lt_of_le hgor hqa.size
                              have huga : ug < wa.heap.size := Nat.lt_of_lt_of_le hugr hqa.size
                              have huma : um < wa.heap.size := Nat.lt_of_lt_of_le humr hqa.size
                              have hpr2 : pd * qd = pr := HPR.out
                              clear pw pf e1r f1r x1 x2
                              go_wp2_with fail
                              refine wp_region_after_tail 19 (by kernel_rfl) (by kernel_rfl) ?_
                              simp only [List.take_succ_cons, List.take_zero, List.drop_succ_cons, List.drop_zero]
                              repeat (go_big_quiet_step (fail))
                              refine wpQuiet_nil ?_
                              rintro _ ⟨xx, rfl⟩
                              obtain ⟨wb, hqb⟩ := xx
                              try dsimp only
                              have pwb := ((bcell hqb).1 _ _ hgoa).trans pwa
                              have pfb := ((bcell hqb).2 _ _ hgoa).trans pfa
                              have hqab : Ext wr wb := Ext.trans' hqa hqb
                              go_wp2
                              go_roundw
                              case rel =>
                                refine ⟨t + 1, by omega, by go_num, mod_put (hMt.trans (hqab.mod _)) _, ?_⟩
                                rw [← HSET.out, HFV.out]
                                exact own_put (own_keep HOTR.out (hqab.block go hgor)) _ _
                              case measure => simp [intOf]; omega
                            · have hb2 : (y1 == y2) = false := by simpa using hyy
                              have hb3 : (y2 == y1) = false := by simpa using fun h : y2 = y1 => hyy h.symm
                              have hFv : FF t = bt := by rw [HFT.out, hb3]; simp
                              have HFV := Lib.hid hFv
                              clear hyy hFv hb3
                              go_wp2_with fail
                              refine wp_region_after (by kernel_rfl) (by kernel_rfl) ?_
                              repeat (go_big_quiet_step (fail))
                              refine wpQuiet_nil ?_
                              rintro _ ⟨xx, rfl⟩
                              obtain ⟨wa, hqa⟩ := xx
                              try dsimp only
                              go_wp2_with fail
                              go_roundw
                              case rel =>
                                refine ⟨t + 1, by omega, by go_num, hMt.trans (hqa.mod _), ?_⟩
                                rw [← HSET.out, HFV.out]
                                have hcc := own_keep HOTR.out (hqa.block go hgor)
                                rw [HSKIP.out]
                                exact hcc
                              case measure => simp [intOf]; omega
                          · obtain rfl : t = k := by omega
                            have hot2 := hot
                            rw [HEND.out] at hot2
                            have HOT2 := Lib.hid hot2
                            clear hot hot2
                            go_wp2_with fail
                            go_roundw
                            case rel =>
                              refine ⟨j + 1, by omega, by go_num, ?_, HMZ.out.trans hMt, HOT2.out⟩
                              rw [HOTE.out, HO1.out]
                              simp only [hb, cond_false, Int.add_zero]
                            case measure => simp [intOf]; omega
                    · obtain rfl : j = PB.length := by omega
                      rw [List.take_length] at hoj
                      have HOJ := Lib.hid hoj
                      have HMJ := Lib.hid hMj
                      clear hoj hMj
                      go_wp2_with fail
                      go_roundw
                      case rel =>
                        refine ⟨i + 1, by omega, by go_num, by rw [HPT.out, List.take_length], HM1.out.trans HMJ.out, ?_⟩
                        have e : (fun r => pairS (othPair C LV r) (PA.take (i + 1)) PB) = fun r => pairS (othPair C LV r) (PA.take i) PB + oneS (othPair C LV r) (pk, pd) PB := funext fun r => HPT.out _
                        rw [e]
                        exact HOJ.out
                      case measure => simp [intOf]; omega
                · obtain rfl : i = PA.length := by omega
                  simp only [List.take_length] at hoq ⊢
                  have hszw := hEw9'.size
                  have hsz9 := hMq.size
                  have hEf : Ext w wr := Below.trans hEw9' (hMq.below (B := w.heap.size) (by omega) (fun i hi => by omega))
                  have hAf := HA9.out.mod hMq (by omega) (by omega) (by omega)
                  have hBf := HB9.out.mod hMq (by omega) (by omega) (by omega)
                  have hCf := HC9.out.mod hMq (show ¬ (w2.heap.size = go) by omega)
                  have hW8 := hAf.g.w2
                  have hown := pairS_bd (fun a b => a == b) PB (fun q hq => (HP2.out q hq).2.2) hQl PA (fun p hp => (HP1.out p hp).2.2)
                  obtain ⟨FO, hFO⟩ : ∃ FO : Nat → Int, FO = fun r => pairS (othPair C LV r) PA PB := ⟨_, rfl⟩
                  have hFb : ∀ r, 0 ≤ FO r ∧ FO r ≤ 1125899906842624 := fun r => by
                    have h1 := (pairS_bd (othPair C LV r) PB (fun q hq => (HP2.out q hq).2.2) hQl PA (fun p hp => (HP1.out p hp).2.2))
                    rw [hFO]
                    dsimp only
                    omega
                  have hinn : innF (feed C LV k W PA (zs (k * W))) (feed C LV k W PB (zs (k * W))) W k = some (pairS (fun a b => a == b) PA PB + leastF FO k) := by
                    rw [innF_fit ((feed_bnd C LV k W PA).le (by omega)) ((feed_bnd C LV k W PB).le (by omega)) (by omega) k]
                    congr 1
                    refine innS_least (R := k) (fun r hr => ?_) k (Nat.le_refl _) hR1
                    rw [HROW.out r hr, row_split, hFO]
                  have hLb := leastF_bd FO 1125899906842624 (fun r => by have := hFb r; omega) k
                  have hL0 : 0 ≤ leastF FO k := by
                    obtain ⟨r, _, hr⟩ := leastF_mem FO k hR1
                    rw [hr]; exact (hFb r).1
                  rw [← hFO] at hoq
                  generalize hOW : pairS (fun a b => a == b) PA PB = OW at *
                  have HINN := Lib.hid hinn
                  have HFB := Lib.hid hFb
                  have HAF := Lib.hid hAf
                  have HBF := Lib.hid hBf
                  have HCF := Lib.hid hCf
                  obtain ⟨pw0, pf0⟩ := own_cell hoq (j := 0) (by simp; omega)
                  have hg0 : ((List.range k).map FO).getD 0 0 = FO 0 := by simp [show 0 < k by omega]
                  rw [hg0] at pw0
                  have hgor : go < wr.heap.size := Nat.lt_of_lt_of_le hgol hMq.size
                  have HOQ := Lib.hid hoq
                  clear hinn hFb hAf hBf hCf hg0 hoq hOW hFO hMq
                  rename World => wf
                  go_wp2_with fail
                  have c1 := HCF.out.c1
                  have cl := HCF.out.lt
                  rw [HR.out] at c1
                  go_loopw [22, 23] (fun u22 u23 wq => ∃ t : Nat, t ≤ k ∧ u22 = .int .i64 (leastF FO t) ∧ u23 = .int .i64 t ∧ Ext wf wq) (fun _ u23 _ => k - (intOf u23).toNat)
                  case atStart => exact ⟨0, Nat.zero_le _, rfl, rfl, Ext.refl _⟩
                  case round =>
                    obtain ⟨t, ht, rfl, rfl, hEt⟩ := hrel
                    have c1' := ((bcell hEt).1 _ 1 cl).trans c1
                    have cl' : w2.heap.size < wr.heap.size := Nat.lt_of_lt_of_le cl hEt.size
                    by_cases hgt : t < k
                    · obtain ⟨pw, pf⟩ := own_cell (own_ext HOQ.out hEt) (j := t) (by simp; exact hgt)
                      have hg0 : ((List.range k).map FO).getD t 0 = FO t := by simp [hgt]
                      rw [hg0] at pw
                      have hls := leastF_succ FO t
                      obtain ⟨y1, y2⟩ := HFB.out t
                      have hgor' : go < wr.heap.size := Nat.lt_of_lt_of_le hgor hEt.size
                      generalize leastF FO t = m at *
                      generalize hm' : leastF FO (t + 1) = m' at *
                      have HM' := Lib.hid hm'
                      generalize FO t = y at *
                      clear hm' hg0 pw0 pf0 c1
                      by_cases hyl : y < m
                      · have hme : m' = y := by omega
                        have HME := Lib.hid hme
                        clear hme hls
                        go_wp2_with fail
                        go_roundw
                        case rel => exact ⟨t + 1, by omega, by rw [HM'.out, HME.out], by go_num, hEt⟩
                        case measure => simp [intOf]; omega
                      · have hme : m' = m := by omega
                        have HME := Lib.hid hme
                        clear hme hls
                        go_wp2_with fail
                        go_roundw
                        case rel => exact ⟨t + 1, by omega, by rw [HM'.out, HME.out], by go_num, hEt⟩
                        case measure => simp [intOf]; omega
                    · obtain rfl : t = k := by omega
                      clear c1 pw0 pf0
                      go_wp2_with fail
                      refine Calls.mono (Inner_c s b c s2 b2 c2 C LV t W _ _ _ (HAF.out.ext hEt) (HBF.out.ext hEt) HCM.out) ?_
                      rw [HINN.out]
                      generalize leastF FO t = L at *
                      rw [show innV (some (OW + L)) = .tuple #[.agg #[.int .i64 (hi (OW + L)), .int .u64 (lo (OW + L))], .int .i64 0] from rfl]
                      rintro e wi ⟨rfl, hxi⟩
                      have hEi : Ext wf wi := hEt.trans' hxi
                      have hnb := heap_at wi (.cells #[.int .i64 (hi (OW + L)), .int .u64 (lo (OW + L))] 56) rfl
                      have hEib : Ext wi (wi.alloc (.cells #[.int .i64 (hi (OW + L)), .int .u64 (lo (OW + L))] 56)) := Ext.alloc' _ _
                      clear hxi
                      go_wp2_with fail
                      generalize wi.alloc (.cells #[.int .i64 (hi (OW + L)), .int .u64 (lo (OW + L))] 56) = wib at *
                      obtain ⟨a0, a1, al⟩ := wbox hnb (Ext.refl _)
                      have hEF : Ext w wib := hEf.trans' (hEi.trans' hEib)
                      have hdl : decide (OW + L < OW) = false := by simp; omega
                      clear hnb hEib hEi hEt
                      refine wp_region_after (by kernel_rfl) (by kernel_rfl) ?_
                      repeat (go_big_quiet_step ((first | (go_at_call 40; exact quiet_after (Of_c _ (by unfold I64; omega) _)) | (go_at_call 41; exact quiet_after (Less_c _ _ _)))))
                      refine wpQuiet_nil ?_
                      rintro _ ⟨xx, rfl⟩
                      obtain ⟨wq, hq⟩ := xx
                      try dsimp only
                      go_wp2
                      go_ret
                      exact ⟨by simp, hEF.trans' hq⟩
end Go.Proofs.Ythancaehlijaoaa

/- What the arguments of the statements read as: a config, updates, a play. No condition. -/
namespace Go.Proofs.Ythancaehlijaoaa
set_option linter.unusedVariables false
open Go.ChangeShapes Go.WideShapes Go.ChangeAt Go.RowKit Go.Deep

theorem wf_u64 {x : Int} (h : (Lit.int IntKind.u64 x).wf = true) : U64 x := by
  have := bounds_u64 h
  exact ⟨this.1, by omega⟩
theorem wf_i64 {x : Int} (h : (Lit.int IntKind.i64 x).wf = true) : I64 x := by
  have := bounds_i64 h
  exact ⟨this.1, by omega⟩
section
variable {H : Type} {enc : TypeId × Value → H} {w : World} {base : Nat} {spare : Nat → Bool} {held : Bool}
set_option maxRecDepth 100000 in
/-- Five cells that read as a config. -/
theorem cfg_of {n : Nat} {cs : List Value} {y : DataW H × List MemPlace} (h : DataW.trod enc Try.prog w base spare held n 24 cs = some y) :
    ∃ C : Cfg, C.Raw ∧ cs = [.int .i64 C.bits, .int .i64 C.rows, .int .i64 C.width, .int .i64 C.mode, .int .u64 C.seed] := by
  obtain ⟨xs, n, _, _, hl, hx, hg⟩ := DataW.trod_struct Try.underlying24 h
  have hl' : cs.length = 5 := hl.trans (by kernel_rfl)
  match cs, hl' with
  | [c0, c1, c2, c3, c4], _ =>
    have hx' : xs.length = 5 := hx.trans (by kernel_rfl)
    match xs, hx' with
    | [x0, x1, x2, x3, x4], _ =>
      have e0 : DataW.trod enc Try.prog w base spare held n 3 [c0] = some x0 := hg 0 _ rfl
      have e1 : DataW.trod enc Try.prog w base spare held n 3 [c1] = some x1 := hg 1 _ rfl
      have e2 : DataW.trod enc Try.prog w base spare held n 3 [c2] = some x2 := hg 2 _ rfl
      have e3 : DataW.trod enc Try.prog w base spare held n 3 [c3] = some x3 := hg 3 _ rfl
      have e4 : DataW.trod enc Try.prog w base spare held n 22 [c4] = some x4 := hg 4 _ rfl
      obtain ⟨a0, h0, _, w0⟩ := DataW.trod_int Try.underlying3 e0
      obtain ⟨a1, h1, _, w1⟩ := DataW.trod_int Try.underlying3 e1
      obtain ⟨a2, h2, _, w2⟩ := DataW.trod_int Try.underlying3 e2
      obtain ⟨a3, h3, _, w3⟩ := DataW.trod_int Try.underlying3 e3
      obtain ⟨a4, h4, _, w4⟩ := DataW.trod_int Try.underlying22 e4
      simp only [List.cons.injEq, and_true] at h0 h1 h2 h3 h4
      exact ⟨⟨a0, a1, a2, a3, a4⟩, ⟨wf_i64 w0, wf_i64 w1, wf_i64 w2, wf_i64 w3, wf_u64 w4⟩, by rw [h0, h1, h2, h3, h4]⟩
set_option maxRecDepth 100000 in
/-- Two cells that read as an update. -/
theorem upd_of {n : Nat} {cs : List Value} {y : DataW H × List MemPlace} (h : DataW.trod enc Try.prog w base spare held n 34 cs = some y) :
    ∃ u : Int × Int, (U64 u.1 ∧ I64 u.2) ∧ cs = [.int .u64 u.1, .int .i64 u.2] := by
  obtain ⟨xs, n, _, _, hl, hx, hg⟩ := DataW.trod_struct Try.underlying34 h
  have hl' : cs.length = 2 := hl.trans (by kernel_rfl)
  match cs, hl' with
  | [c0, c1], _ =>
    have hx' : xs.length = 2 := hx.trans (by kernel_rfl)
    match xs, hx' with
    | [x0, x1], _ =>
      have e0 : DataW.trod enc Try.prog w base spare held n 22 [c0] = some x0 := hg 0 _ rfl
      have e1 : DataW.trod enc Try.prog w base spare held n 2 [c1] = some x1 := hg 1 _ rfl
      obtain ⟨a0, h0, _, w0⟩ := DataW.trod_int Try.underlying22 e0
      obtain ⟨a1, h1, _, w1⟩ := DataW.trod_int Try.underlying2 e1
      simp only [List.cons.injEq, and_true] at h0 h1
      exact ⟨(a0, a1), ⟨wf_u64 w0, wf_i64 w1⟩, by rw [h0, h1]⟩
theorem add_plain0 (b off i : Nat) : (Addr.add ⟨b, off, none⟩ i) = ⟨b, off + i, none⟩ := by
  unfold Addr.add
  by_cases h : i = 0
  · subst h; simp
  · simp [h]
theorem choose_list {α : Type} (P : Nat → α → Prop) : ∀ n, (∀ i, i < n → ∃ x, P i x) → ∃ l : List α, l.length = n ∧ ∀ i (h : i < l.length), P i l[i] := by
  intro n
  induction n with
  | zero => intro _; exact ⟨[], rfl, fun i h => by simp at h⟩
  | succ n ih =>
    intro h
    obtain ⟨l, hl, hP⟩ := ih (fun i hi => h i (by omega))
    obtain ⟨x, hx⟩ := h n (by omega)
    refine ⟨l ++ [x], by simp [hl], fun i hi => ?_⟩
    by_cases e : i < l.length
    · rw [List.getElem_append_left e]; exact hP i e
    · have : i = n := by simp at hi; omega
      subst this
      rw [List.getElem_append_right (by omega)]
      simp [hl, hx]
/-- A cell that reads as a slice of updates. -/
theorem ups_of {n : Nat} {v : Value} {y : DataW H × List MemPlace} (h : DataW.trod enc Try.prog w 0 (fun _ => true) held n 25 [v] = some y) :
    ∃ us : List (Int × Int), UpsOk us ∧ UpsAt w v us ∧ (us = [] ∨ ∃ el sp : List (DataW H), y.1 = .slice el sp ∧ el.length = us.length) := by
  rcases open_slice Try.underlying25 h with ⟨hcs, _⟩ | ⟨a, len, cap, m, n', D, Pl, hcs, _, hlc, hcm, hm, hx, hi⟩
  · simp only [List.cons.injEq, and_true] at hcs
    subst hcs
    exact ⟨[], (by intro u hu; cases hu), .inl ⟨⟨_, rfl⟩, rfl⟩, .inl rfl⟩
  · simp only [List.cons.injEq, and_true] at hcs
    subst hcs
    simp only [if_true] at hm
    rw [hm] at hi hx
    clear hm
    have hC : Try.prog.cellsOf 34 = 2 := by kernel_rfl
    rw [hC] at hi
    have key : ∀ i, i < len → ∃ u : Int × Int, (U64 u.1 ∧ I64 u.2) ∧ w.cell? (a.add (i * 2)) = some (.int .u64 u.1) ∧ w.cell? (a.add (i * 2 + 1)) = some (.int .i64 u.2) := by
      intro i hil
      obtain ⟨cs', hc, ht⟩ := hi i (by omega)
      obtain ⟨u, hu, rfl⟩ := upd_of ht
      obtain ⟨_, _, hat⟩ := World.cells?_some hc
      refine ⟨u, hu, ?_, ?_⟩
      · have := hat 0 (by omega); rw [add_add, Nat.add_zero] at this; exact this
      · have := hat 1 (by omega); rw [add_add] at this; exact this
    obtain ⟨us, hul, hus⟩ := choose_list _ len key
    by_cases h0 : cap = 0
    · have hl0 : len = 0 := by omega
      subst hl0 h0
      obtain rfl : us = [] := List.length_eq_zero_iff.1 hul
      exact ⟨[], (by intro u hu; cases hu), .inl ⟨⟨_, rfl⟩, rfl⟩, .inl rfl⟩
    · obtain ⟨cs', hc, ht⟩ := hi 0 (by omega)
      obtain ⟨u, _, rfl⟩ := upd_of ht
      obtain ⟨_, _, hat⟩ := World.cells?_some hc
      have h1 := hat 0 (by omega)
      obtain ⟨b, off, spot⟩ := a
      have hspot : spot = none := by simpa [Addr.add] using World.cell?_spot h1
      subst hspot
      have hb : b < w.heap.size := by
        rcases Nat.lt_or_ge b w.heap.size with h' | h'
        · exact h'
        · simp [World.cell?, Addr.add, Array.getElem?_eq_none h'] at h1
      refine ⟨us, ?_, .inr ⟨b, off, cap, by rw [hul], hb, fun k hk => ?_⟩, .inr ⟨_, _, by rw [hx], by simp [hul]⟩⟩
      · intro u hu
        obtain ⟨i, hi', rfl⟩ := List.getElem_of_mem hu
        exact (hus i hi').1
      · have := (hus k hk).2
        have hg : us.getD k (0, 0) = us[k] := by simp [hk]
        rw [hg]
        rw [add_plain0, add_plain0] at this
        simpa only [Nat.add_assoc] using this
theorem reach_of {ts : List TypeId} {ds : List (DataW H)} {j : Nat} {t : TypeId} {d : DataW H} (hsz : (DataW.weightsEach Try.prog ts ds).all (· ≤ reachBytes) = true) (ht : ts[j]? = some t) (hd : ds[j]? = some d) {n : Nat} (hn : n ∈ d.weights Try.prog t) : n ≤ reachBytes := by
  have := List.all_eq_true.1 hsz _ (DataW.weights_mem_each ht hd n hn)
  simpa using this
end
end Go.Proofs.Ythancaehlijaoaa

/- What a play reads as. No condition. -/
namespace Go.Proofs.Ythancaehlijaoaa
set_option linter.unusedVariables false
open Go.ChangeShapes Go.WideShapes Go.ChangeAt Go.RowKit Go.Deep

theorem own : ownKnob Try.prog.godebug = none := by kernel_rfl
theorem laidOut : laidOutB Try.prog = true := by kernel_rfl
section
variable {H : Type} {enc : TypeId × Value → H} {w : World} {held : Bool}
set_option maxRecDepth 100000 in
theorem play_of {r : Reach} {b0 : Nat} {v : Value} {d : DataW H} {p : List MemPlace} (hv : Value.okWide Try.prog w r b0 27 v) (h : DataW.Trod enc Try.prog w 0 (fun _ => true) held 27 v d p) :
    ∃ (x : Cfg) (lv : Int) (us : List (Int × Int)) (u : Value), x.Raw ∧ I64 lv ∧ UpsOk us ∧ UpsAt w u us ∧ v = .agg #[.int .i64 x.bits, .int .i64 x.rows, .int .i64 x.width, .int .i64 x.mode, .int .u64 x.seed, .int .i64 lv, u] ∧
      ∀ (ts : List TypeId) (ds : List (DataW H)) (j : Nat), (DataW.weightsEach Try.prog ts ds).all (· ≤ reachBytes) = true → ts[j]? = some 27 → ds[j]? = some d → us.length ≤ 140737488355328 := by
  obtain ⟨cs, rfl, hsz⟩ := okWide_struct Try.underlying27 hv
  obtain ⟨fuel, hf⟩ := h
  obtain ⟨l⟩ := cs
  obtain ⟨xs, n, _, hd, hl, hx, hg⟩ := DataW.trod_struct Try.underlying27 hf
  have hl' : l.length = 7 := hsz.trans (by kernel_rfl)
  match l, hl' with
  | [c0, c1, c2, c3, c4, c5, c6], _ =>
    have hx' : xs.length = 3 := hx.trans (by kernel_rfl)
    match xs, hx' with
    | [x0, x1, x2], _ =>
      have e0 : DataW.trod enc Try.prog w 0 (fun _ => true) held n 24 [c0, c1, c2, c3, c4] = some x0 := hg 0 _ rfl
      have e1 : DataW.trod enc Try.prog w 0 (fun _ => true) held n 3 [c5] = some x1 := hg 1 _ rfl
      have e2 : DataW.trod enc Try.prog w 0 (fun _ => true) held n 25 [c6] = some x2 := hg 2 _ rfl
      obtain ⟨x, hxr, hc⟩ := cfg_of e0
      obtain ⟨lv, h1, _, w1⟩ := DataW.trod_int Try.underlying3 e1
      obtain ⟨us, hu, hat, hlen⟩ := ups_of e2
      simp only [List.cons.injEq, and_true] at hc h1
      obtain ⟨rfl, rfl, rfl, rfl, rfl⟩ := hc
      subst h1
      simp only [Prod.mk.injEq] at hd
      refine ⟨x, lv, us, c6, hxr, wf_i64 w1, hu, hat, rfl, fun ts ds j hs ht hj => ?_⟩
      rcases hlen with rfl | ⟨el, sp, hx2, hel⟩
      · simp
      · have hb : Try.prog.bytesOf 34 = 16 := by kernel_rfl
        have := reach_of hs ht hj (n := (el.length + sp.length) * Try.prog.bytesOf 34) (by
          rw [hd.1]
          simp [DataW.weights, DataW.weightsEach, hx2, Try.underlying27, Try.underlying25])
        rw [hb] at this
        simp only [reachBytes] at this
        omega
end
end Go.Proofs.Ythancaehlijaoaa

/- What a config, a pair of numbers, and two rows of updates read as. No condition. -/
namespace Go.Proofs.Ythancaehlijaoaa
set_option linter.unusedVariables false
open Go.ChangeShapes Go.WideShapes Go.ChangeAt Go.RowKit Go.Deep
section
variable {H : Type} {enc : TypeId × Value → H} {w : World} {held : Bool}
set_option maxRecDepth 100000 in
theorem cfgarg_of {r : Reach} {b0 : Nat} {v : Value} {d : DataW H} {p : List MemPlace} (hv : Value.okWide Try.prog w r b0 24 v) (h : DataW.Trod enc Try.prog w 0 (fun _ => true) held 24 v d p) :
    ∃ (x : Cfg), x.Raw ∧ v = .agg #[.int .i64 x.bits, .int .i64 x.rows, .int .i64 x.width, .int .i64 x.mode, .int .u64 x.seed] := by
  obtain ⟨cs, rfl, hsz⟩ := okWide_struct Try.underlying24 hv
  obtain ⟨fuel, hf⟩ := h
  obtain ⟨l⟩ := cs
  obtain ⟨x, hxr, hc⟩ := cfg_of hf
  have hc' : l = _ := hc
  subst hc'
  exact ⟨x, hxr, rfl⟩
set_option maxRecDepth 100000 in
theorem pairarg_of {r : Reach} {b0 : Nat} {v : Value} {d : DataW H} {p : List MemPlace} (hv : Value.okWide Try.prog w r b0 78 v) (h : DataW.Trod enc Try.prog w 0 (fun _ => true) held 78 v d p) :
    ∃ (a b : Int), I64 a ∧ I64 b ∧ v = .agg #[.int .i64 a, .int .i64 b] := by
  have hv' : ∃ cs, v = .agg cs ∧ cs.size = 2 := by
    simp only [Value.okWide, Try.underlying78] at hv
    obtain ⟨cs, h1, h2, _⟩ := hv
    exact ⟨cs, h1, h2.trans (by kernel_rfl)⟩
  obtain ⟨cs, rfl, hsz⟩ := hv'
  obtain ⟨fuel, hf⟩ := h
  obtain ⟨l⟩ := cs
  obtain ⟨xs, m, _, _, _, hl, hel⟩ := DataW.trod_array Try.underlying78 hf
  match l, hsz with
  | [c0, c1], _ =>
    match xs, hl with
    | [x0, x1], _ =>
      have hC : Try.prog.cellsOf 3 = 1 := by kernel_rfl
      have e0 : DataW.trod enc Try.prog w 0 (fun _ => true) held m 3 [c0] = some x0 := by have := hel 0 (by decide); rw [hC] at this; exact this
      have e1 : DataW.trod enc Try.prog w 0 (fun _ => true) held m 3 [c1] = some x1 := by have := hel 1 (by decide); rw [hC] at this; exact this
      obtain ⟨a0, h0, _, w0⟩ := DataW.trod_int Try.underlying3 e0
      obtain ⟨a1, h1, _, w1⟩ := DataW.trod_int Try.underlying3 e1
      simp only [List.cons.injEq, and_true] at h0 h1
      subst h0 h1
      exact ⟨a0, a1, wf_i64 w0, wf_i64 w1, rfl⟩
set_option maxRecDepth 100000 in
theorem two_of {r : Reach} {b0 : Nat} {v : Value} {d : DataW H} {p : List MemPlace} (hv : Value.okWide Try.prog w r b0 60 v) (h : DataW.Trod enc Try.prog w 0 (fun _ => true) held 60 v d p) :
    ∃ (x : Cfg) (lv : Int) (us : List (Int × Int)) (u : Value) (ms : List (Int × Int)) (m : Value), x.Raw ∧ I64 lv ∧ UpsOk us ∧ UpsAt w u us ∧ UpsOk ms ∧ UpsAt w m ms ∧ v = .agg #[.int .i64 x.bits, .int .i64 x.rows, .int .i64 x.width, .int .i64 x.mode, .int .u64 x.seed, .int .i64 lv, u, m] ∧
      ∀ (ts : List TypeId) (ds : List (DataW H)) (j : Nat), (DataW.weightsEach Try.prog ts ds).all (· ≤ reachBytes) = true → ts[j]? = some 60 → ds[j]? = some d → us.length ≤ 140737488355328 ∧ ms.length ≤ 140737488355328 := by
  obtain ⟨cs, rfl, hsz⟩ := okWide_struct Try.underlying60 hv
  obtain ⟨fuel, hf⟩ := h
  obtain ⟨l⟩ := cs
  obtain ⟨xs, n, _, hd, hl, hx, hg⟩ := DataW.trod_struct Try.underlying60 hf
  have hl' : l.length = 8 := hsz.trans (by kernel_rfl)
  match l, hl' with
  | [c0, c1, c2, c3, c4, c5, c6, c7], _ =>
    have hx' : xs.length = 4 := hx.trans (by kernel_rfl)
    match xs, hx' with
    | [x0, x1, x2, x3], _ =>
      have e0 : DataW.trod enc Try.prog w 0 (fun _ => true) held n 24 [c0, c1, c2, c3, c4] = some x0 := hg 0 _ rfl
      have e1 : DataW.trod enc Try.prog w 0 (fun _ => true) held n 3 [c5] = some x1 := hg 1 _ rfl
      have e2 : DataW.trod enc Try.prog w 0 (fun _ => true) held n 25 [c6] = some x2 := hg 2 _ rfl
      have e3 : DataW.trod enc Try.prog w 0 (fun _ => true) held n 25 [c7] = some x3 := hg 3 _ rfl
      obtain ⟨x, hxr, hc⟩ := cfg_of e0
      obtain ⟨lv, h1, _, w1⟩ := DataW.trod_int Try.underlying3 e1
      obtain ⟨us, hu, hat, hlen⟩ := ups_of e2
      obtain ⟨ms, hm, hmt, hmlen⟩ := ups_of e3
      simp only [List.cons.injEq, and_true] at hc h1
      obtain ⟨rfl, rfl, rfl, rfl, rfl⟩ := hc
      subst h1
      simp only [Prod.mk.injEq] at hd
      have hb : Try.prog.bytesOf 34 = 16 := by kernel_rfl
      refine ⟨x, lv, us, c6, ms, c7, hxr, wf_i64 w1, hu, hat, hm, hmt, rfl, fun ts ds j hs ht hj => ⟨?_, ?_⟩⟩
      · rcases hlen with rfl | ⟨el, sp, hx2, hel⟩
        · simp
        · have := reach_of hs ht hj (n := (el.length + sp.length) * Try.prog.bytesOf 34) (by
            rw [hd.1]
            simp [DataW.weights, DataW.weightsEach, hx2, Try.underlying60, Try.underlying25])
          rw [hb] at this
          simp only [reachBytes] at this
          omega
      · rcases hmlen with rfl | ⟨el, sp, hx2, hel⟩
        · simp
        · have := reach_of hs ht hj (n := (el.length + sp.length) * Try.prog.bytesOf 34) (by
            rw [hd.1]
            simp [DataW.weights, DataW.weightsEach, hx2, Try.underlying60, Try.underlying25])
          rw [hb] at this
          simp only [reachBytes] at this
          omega
end
end Go.Proofs.Ythancaehlijaoaa

/- InnerSums: where no key has less than 0, the product is the sum of the products of what the same keys have, and the least sum, over a row, of the products of what unlike keys with the same column have. No condition: every input. -/
namespace Go.Proofs.Ythancaehlijaoaa
set_option linter.unusedVariables false
open Go.ChangeShapes Go.WideShapes Go.ChangeAt Go.RowKit

set_option maxRecDepth 100000 in
theorem innerSums_lifted (os : Os) (started : os.Started) (H : Type) (enc : TypeId × Value → H) :
    ReturnsInHanded {} Try.checked os 10 .any (Rows.innerSumsSpec.pre6 enc Try.prog Try.f10 Rows.innerSumsRow.domain false) (Rows.innerSumsSpec.post enc Try.prog Try.f10 false true false false) := by
  refine returnsInHanded_of_change_sized (C := Try.checked) own started (by kernel_rfl) Try.func10
    (ChangeSpec.witness6 (enc := enc) (C := Try.checked) false ⟨#[], #[.agg #[.int .i64 0, .int .i64 0, .int .i64 0, .int .i64 0, .int .u64 0, .int .i64 0, .slice none 0 0, .slice none 0 0]], []⟩ 8 (by kernel_rfl) (by kernel_rfl) (by kernel_rfl) (by kernel_rfl)) ?_
  intro W base args ds gs before hval0 hW hcnd hsz0 _
  have hval : ∀ (j : Nat) t v, Try.f10.params[j]? = some t → args[j]? = some v → Value.okWide Try.prog W .any base t v := hval0
  have hW' := hW
  obtain ⟨p, q, hA0, hV, rfl, hfz, hnd⟩ := hW
  have hA : DataW.TrodAll enc Try.prog W 0 (fun _ => true) true Try.f10.params.toList args.toList ds p := hA0
  have hsz : (DataW.weightsEach Try.prog (Try.f10.params.toList ++ Rows.innerSumsSpec.plain.varTypes Try.prog) (ds ++ gs)).all (· ≤ reachBytes) = true := hsz0
  rw [Try.params10] at hA hval hsz
  obtain ⟨v0, vs0, d0, ds0, p0, q0, hargs, rfl, rfl, h0, r0⟩ := trodAll_cons hA
  obtain ⟨rfl, rfl, rfl⟩ := trodAll_nil r0
  obtain rfl : args = #[v0] := by cases args; simp_all
  obtain ⟨rfl, rfl⟩ := trodVars_none hV
  have k0 := h0
  have lt0 : ∀ x ∈ p0, x.block < W.heap.size := by obtain ⟨m, hm⟩ := k0; exact DataW.trod_lt m _ _ _ hm
  obtain ⟨x0, lv0, us0, u0, ms0, m0, hx0, hlv0, hus0, hat0, hms0, hmt0, rfl, hr0⟩ := two_of (hval 0 _ v0 rfl rfl) h0
  obtain ⟨hul0, hml0⟩ := hr0 _ _ 0 hsz rfl rfl
  clear hA0 hval0
  refine (SumsI_c x0 hx0 lv0 hlv0 us0 hus0 u0 ms0 hms0 m0 W hat0 hul0 hmt0 hml0).mono fun e W' ⟨he, bel⟩ => ?_
  subst he
  exact ⟨_, rfl, _, _, _, [], _, [], hW', trodAll_mk1 (shut_bool Try.underlying4 _), (trodAll_cons_mk (Below.trod laidOut (by kernel_rfl) (of_decide_eq_true (by kernel_rfl)) k0 bel lt0) trodAll_mk0), rfl, bel.frame _, fun h => by cases h⟩

/-- The statement. -/
theorem innerSums_holds : Rows.InnerSumsSaid :=
  OpenClaim.holds_of_wide 10 Try.f10 rfl rfl rfl rfl rfl rfl rfl ⟨rfl, rfl, rfl, rfl, rfl⟩ rfl rfl rfl rfl rfl (by kernel_rfl) Try.func10 (by kernel_rfl)
    (of_decide_eq_true (by kernel_rfl)) (by unfold Func.isWrapper; first | (rw [if_pos (by decide +kernel)]; kernel_rfl) | (rw [if_neg (by decide +kernel)]; exact ⟨rfl, rfl⟩))
    (fun os started H enc _ => innerSums_lifted os started H enc)
#print axioms innerSums_holds
end Go.Proofs.Ythancaehlijaoaa
