/- gaugerlaw11.InnerUnlike, walked. -/
import Derived.Test.YthancaehlijaoaaShown11
namespace Go.Proofs.Ythancaehlijaoaa
set_option linter.unusedVariables false
open Go.RowKit

theorem zs_getD' (n i : Nat) : (zs n).getD i 0 = 0 := by
  unfold zs
  rw [List.getD_eq_getElem?_getD]
  rcases Nat.lt_or_ge i n with h | h
  · simp [h]
  · simp [h]
theorem rowP_getD (l : List Int) (W r k : Nat) : (rowP l W r).getD k 0 = if k < W then l.getD (r * W + k) 0 else 0 := by
  by_cases h : k < W
  · rw [rowP_get l h, if_pos h]
  · rw [if_neg h, List.getD_eq_getElem?_getD, List.getElem?_eq_none (by rw [rowP_len]; omega)]; rfl
theorem dotF_zero {a b : List Int} (h : ∀ k, b.getD k 0 = 0) : ∀ k, dotF a b k = some 0 := by
  intro k
  induction k with
  | zero => rfl
  | succ k ih =>
    have := dotF_yes ih (by rw [h, Int.mul_zero]; unfold W128; omega)
    rw [h, Int.mul_zero] at this
    exact this
theorem innF_zero (l : List Int) (n W : Nat) : ∀ r, innF l (zs n) W r = some 0 := by
  intro r
  induction r with
  | zero => rfl
  | succ r ih =>
    have hd := dotF_zero (a := rowP l W r) (b := rowP (zs n) W r) (fun k => by rw [rowP_getD]; split <;> first | exact zs_getD' _ _ | rfl) W
    simp only [innF, ih, hd, Option.bind_some]
    simp
theorem V0 : innV (some 0) = .tuple #[.agg #[.int .i64 0, .int .u64 0], .int .i64 0] := rfl
set_option maxRecDepth 20000 in
set_option maxHeartbeats 8000000 in
theorem InnerUnlikeL_c (x : Cfg) (hx : x.Raw) (y : Cfg) (hy : y.Raw) (lx ly : Int) (hlx : I64 lx) (hly : I64 ly) (w : World) :
    Calls Try.prog 13 #[.agg #[.int .i64 x.bits, .int .i64 x.rows, .int .i64 x.width, .int .i64 x.mode, .int .u64 x.seed], .agg #[.int .i64 y.bits, .int .i64 y.rows, .int .i64 y.width, .int .i64 y.mode, .int .u64 y.seed], .agg #[.int .i64 lx, .int .i64 ly]] w fun e w' => e = .returned (.bool true) ∧ Ext w w' := by
  go_enter Try.func13, Try.ntmps13
  go_wp2_with fail
  refine (shown11_c _).mono ?_
  rintro e w1 ⟨rfl, hb1⟩
  have hE1 : Ext w w1 := by (repeat' (first | exact Ext.refl _ | assumption | apply Ext.allocR | apply Ext.drewR | apply Ext.drewNR | (refine Ext.trans' ?_ (by assumption))))
  have hPx : CfgAt w1 w.heap.size x := ((CfgAt.box x 24 rfl).ext ((Ext.alloc' _ _).allocR _)).ext hb1
  have hPy : CfgAt w1 (w.heap.size + 1) y := ((CfgAt.box y 24 (by rw [size_alloc])).ext (Ext.alloc' _ _)).ext hb1
  have hl0 : w1.cell? ⟨w.heap.size + 2, 0, none⟩ = some (.int .i64 lx) := (cell_of (hb1.keep (heap_at _ _ (by rw [size_alloc, size_alloc]))) 0).trans rfl
  have hl1 : w1.cell? ⟨w.heap.size + 2, 1, none⟩ = some (.int .i64 ly) := (cell_of (hb1.keep (heap_at _ _ (by rw [size_alloc, size_alloc]))) 1).trans rfl
  have hll : w.heap.size + 2 < w1.heap.size := lt_of (hb1.keep (heap_at _ _ (by rw [size_alloc, size_alloc])))
  clear hb1
  have d0 := hPx.c0
  have d1 := hPx.c1
  have d2 := hPx.c2
  have d3 := hPx.c3
  have d4 := hPx.c4
  have dl := hPx.lt
  go_wp2_with fail
  refine Calls.mono (Any_c x hx 8 9 (by decide) (by decide) (by decide) (by decide) _) ?_
  rintro e w2 ⟨rfl, hx2⟩
  have hE2 : Ext w1 w2 := by (repeat' (first | exact Ext.refl _ | assumption | apply Ext.allocR | apply Ext.drewR | apply Ext.drewNR | (refine Ext.trans' ?_ (by assumption))))
  clear hx2 d0 d1 d2 d3 d4 dl
  have hPy2 := hPy.ext hE2
  have d0 := hPy2.c0
  have d1 := hPy2.c1
  have d2 := hPy2.c2
  have d3 := hPy2.c3
  have d4 := hPy2.c4
  have dl := hPy2.lt
  have hC : CfgAt (w2.alloc (.cells #[.int .i64 (mkC x 8 9).bits, .int .i64 (mkC x 8 9).rows, .int .i64 (mkC x 8 9).width, .int .i64 (mkC x 8 9).mode, .int .u64 (mkC x 8 9).seed] 24)) w2.heap.size (mkC x 8 9) := CfgAt.box _ _ rfl
  go_wp2_with fail
  refine Calls.mono (Any_c y hy 8 9 (by decide) (by decide) (by decide) (by decide) _) ?_
  rintro e w3 ⟨rfl, hx3⟩
  have hC3 := hC.ext hx3
  have hE3 : Ext w2 w3 := by (repeat' (first | exact Ext.refl _ | assumption | apply Ext.allocR | apply Ext.drewR | apply Ext.drewNR | (refine Ext.trans' ?_ (by assumption))))
  have hD : CfgAt (w3.alloc (.cells #[.int .i64 (mkC y 8 9).bits, .int .i64 (mkC y 8 9).rows, .int .i64 (mkC y 8 9).width, .int .i64 (mkC y 8 9).mode, .int .u64 (mkC y 8 9).seed] 24)) w3.heap.size (mkC y 8 9) := CfgAt.box _ _ rfl
  have p0 := ((bcell (hE2.trans' hE3)).1 _ 0 hll).trans hl0
  have p2 := ((bcell (hE2.trans' hE3)).1 _ 1 hll).trans hl1
  have p1 : w.heap.size + 2 < w3.heap.size := Nat.lt_of_lt_of_le hll (hE2.trans' hE3).size
  clear hx3 d0 d1 d2 d3 d4 dl hPy2 hC hl0 hl1 hll
  have okC := mkC_ok x hx.s (nb := 8) (nw := 9) (by decide) (by decide) (by decide) (by decide)
  have okD := mkC_ok y hy.s (nb := 8) (nw := 9) (by decide) (by decide) (by decide) (by decide)
  have hEw : Ext w w3 := hE1.trans' (hE2.trans' hE3)
  generalize mkC x 8 9 = C at *
  generalize mkC y 8 9 = D at *
  have hax := and16 lx
  have hay := and16 ly
  have n1 := Int.emod_nonneg lx (show (65536 : Int) ≠ 0 by decide)
  have n2 := Int.emod_nonneg ly (show (65536 : Int) ≠ 0 by decide)
  have n3 := Int.emod_lt_of_pos lx (show (0 : Int) < 65536 by decide)
  have n4 := Int.emod_lt_of_pos ly (show (0 : Int) < 65536 by decide)
  have bb1 := okC.b1
  have bb2 := okC.b2
  have bb3 := okD.b1
  have bb4 := okD.b2
  have i1 := Int.emod_nonneg (lx % 65536) (show C.bits + 1 ≠ 0 by omega)
  have i2 := Int.emod_lt_of_pos (lx % 65536) (show 0 < C.bits + 1 by omega)
  have i3 := Int.emod_nonneg (ly % 65536) (show D.bits + 1 ≠ 0 by omega)
  have i4 := Int.emod_lt_of_pos (ly % 65536) (show 0 < D.bits + 1 by omega)
  have p4 := hC3.c0
  have p5 := hC3.lt
  have q1 := hC3.c1
  have q2 := hC3.c2
  have q3 := hC3.c3
  have q4 := hC3.c4
  have z1 : (C.bits + 1 == 0) = false := by simp; omega
  have z2 : (D.bits + 1 == 0) = false := by simp; omega
  obtain ⟨R, hR⟩ : ∃ R : Nat, C.rows = R := ⟨C.rows.toNat, by have := okC.r1; omega⟩
  obtain ⟨W, hW⟩ : ∃ W : Nat, C.width = W := ⟨C.width.toNat, by have := okC.w1; omega⟩
  obtain ⟨R2, hR2⟩ : ∃ R : Nat, D.rows = R := ⟨D.rows.toNat, by have := okD.r1; omega⟩
  obtain ⟨W2, hW2⟩ : ∃ W : Nat, D.width = W := ⟨D.width.toNat, by have := okD.w1; omega⟩
  have HR := Lib.hid hR
  have HW := Lib.hid hW
  have HR2 := Lib.hid hR2
  have HW2 := Lib.hid hW2
  clear hR hW hR2 hW2
  go_wp2_with fail
  generalize lx % 65536 % (C.bits + 1) = I at *
  generalize ly % 65536 % (D.bits + 1) = J at *
  have HC3 := Lib.hid hC3
  have HD := Lib.hid hD
  have hEB : Ext w3 (w3.alloc (.cells #[.int .i64 D.bits, .int .i64 D.rows, .int .i64 D.width, .int .i64 D.mode, .int .u64 D.seed] 24)) := Ext.alloc' _ _
  clear hPx hPy hC3 hD hax hay n1 n2 n3 n4 p0 p1 p2 p4 p5 q1 q2 q3 q4 z1 z2 hE1 hE2 hE3
  generalize w3.alloc (.cells #[.int .i64 D.bits, .int .i64 D.rows, .int .i64 D.width, .int .i64 D.mode, .int .u64 D.seed] 24) = wB at *
  have hCB := HC3.out.ext hEB
  have hEwB : Ext w wB := hEw.trans' hEB
  have HCB := Lib.hid hCB
  clear hCB HC3 hEB hEw
  refine Calls.mono (SNew_c C okC I i1 (by omega) R W HR.out HW.out _) ?_
  rintro e w4 ⟨s, b, c, rfl, hS, hs, hb, hc, hx4⟩
  have hE4 : Ext wB w4 := by (repeat' (first | exact Ext.refl _ | assumption | apply Ext.allocR | apply Ext.drewR | apply Ext.drewNR | (refine Ext.trans' ?_ (by assumption))))
  have hD4 := HD.out.ext hE4
  have d0 := hD4.c0
  have d1 := hD4.c1
  have d2 := hD4.c2
  have d3 := hD4.c3
  have d4 := hD4.c4
  have dl := hD4.lt
  clear hx4 hD4
  go_wp2_with fail
  refine Calls.mono (SNew_c D okD J i3 (by omega) R2 W2 HR2.out HW2.out _) ?_
  rintro e w5 ⟨s2, b2, c2, rfl, hS2, hs2, hb2, hc2, hx5⟩
  have hE5 : Ext w4 w5 := by (repeat' (first | exact Ext.refl _ | assumption | apply Ext.allocR | apply Ext.drewR | apply Ext.drewNR | (refine Ext.trans' ?_ (by assumption))))
  have hS5 := hS.ext hE5
  have hE45 := hE4.trans' hE5
  have hC5 := HCB.out.ext hE45
  have hD5 := HD.out.ext hE45
  have hEw5 := hEwB.trans' hE45
  obtain ⟨ub, want, hInn, hub⟩ : ∃ (ub : Bool) (want : Int), (∀ w' : World, Ext w5 w' → Calls Try.prog 37 #[.pointer (some ⟨s, 0, none⟩), .pointer (some ⟨s2, 0, none⟩)] w' fun e w'' => e = .returned (.tuple #[.agg #[.int .i64 0, .int .u64 0], .int .i64 want]) ∧ Ext w' w'') ∧ ((ub = true ∧ PartsAt C I D J ∧ want = 5) ∨ (ub = false ∧ C = D ∧ I = J ∧ (C.mode != 1) = true ∧ want = 3) ∨ (ub = false ∧ C = D ∧ I = J ∧ (C.mode != 1) = false ∧ want = 0)) := by
    rcases parts_or C I D J with ⟨h1, h2⟩ | hp
    · have hRR : R2 = R := by have h3 := HR.out; have h4 := HR2.out; rw [h1] at h3; omega
      have hWW : W2 = W := by have h3 := HW.out; have h4 := HW2.out; rw [h1] at h3; omega
      subst h1 h2 hRR hWW
      by_cases hm : C.mode = 1
      · refine ⟨false, 0, fun w' hE' => ?_, .inr (.inr ⟨rfl, rfl, rfl, by simp [hm], rfl⟩)⟩
        have := Inner_c s b c s2 b2 c2 C I _ _ _ _ w' (hS5.ext hE') (hS2.ext hE') hm
        rw [innF_zero, V0] at this
        exact this
      · exact ⟨false, 3, fun w' hE' => Inner_mode s b c s2 b2 c2 C I _ _ _ _ w' (hS5.ext hE') (hS2.ext hE') hm, .inr (.inl ⟨rfl, rfl, rfl, by simpa using hm, rfl⟩)⟩
    · exact ⟨true, 5, fun w' hE' => Inner_unlike s b c s2 b2 c2 C D I J R W R2 W2 _ _ w' (hS5.ext hE') (hS2.ext hE') hp, .inl ⟨rfl, hp, rfl⟩⟩
  have HINN := Lib.hid hInn
  have HUB := Lib.hid hub
  have c0 := hC5.c0
  have c1 := hC5.c1
  have c2' := hC5.c2
  have c3 := hC5.c3
  have c4 := hC5.c4
  have cl := hC5.lt
  have e0 := hD5.c0
  have e1 := hD5.c1
  have e2 := hD5.c2
  have e3 := hD5.c3
  have e4 := hD5.c4
  have el := hD5.lt
  clear hx5 d0 d1 d2 d3 d4 dl hS hS2 hE5 hE4 hE45 hS5 HCB HD hEwB hC5 hD5 hInn hub
  go_upto_region 11 with (fail)
  go_cut [75] (fun s75 wx => s75 = .bool ub ∧ wx = w5)
  case first =>
    rcases HUB.out with ⟨rfl, hp, _⟩ | ⟨rfl, rfl, rfl, _⟩ | ⟨rfl, rfl, rfl, _⟩
    · cases hp
      all_goals
        go_wp2_with fail
        go_meet
        exact ⟨by first | rfl | simp [bne, *], rfl⟩
    · go_wp2_with fail
      go_meet
      exact ⟨by first | rfl | simp, rfl⟩
    · go_wp2_with fail
      go_meet
      exact ⟨by first | rfl | simp, rfl⟩
  case rest =>
    obtain ⟨rfl, rfl⟩ := hcut
    rcases HUB.out with ⟨rfl, -, rfl⟩ | ⟨rfl, -, -, hm, rfl⟩ | ⟨rfl, -, -, hm, rfl⟩
    all_goals clear HUB
    all_goals
      go_wp2_with fail
      refine Calls.mono (HINN.out _ (by (repeat' (first | exact Ext.refl _ | assumption | apply Ext.allocR | apply Ext.drewR | apply Ext.drewNR | (refine Ext.trans' ?_ (by assumption)))))) ?_
      rintro e w7 ⟨rfl, hx7⟩
      have hE7 : Ext w w7 := hEw5.trans' (by (repeat' (first | exact Ext.refl _ | assumption | apply Ext.allocR | apply Ext.drewR | apply Ext.drewNR | (refine Ext.trans' ?_ (by assumption)))))
      have hnb := heap_at w7 (.cells #[.int .i64 0, .int .u64 0] 56) rfl
      have hE7b : Ext w7 (w7.alloc (.cells #[.int .i64 0, .int .u64 0] 56)) := Ext.alloc' _ _
      go_wp2_with fail
      generalize w7.alloc (.cells #[.int .i64 0, .int .u64 0] 56) = w7b at *
      refine Calls.mono (Inner_nil1 _ _) ?_
      rintro e w8 ⟨rfl, hx8⟩
      go_wp2_with fail
      refine Calls.mono (Inner_nil2 s _) ?_
      rintro e w9 ⟨rfl, hx9⟩
      have hE9 : Ext w7b w9 := by (repeat' (first | exact Ext.refl _ | assumption | apply Ext.allocR | apply Ext.drewR | apply Ext.drewNR | (refine Ext.trans' ?_ (by assumption))))
      obtain ⟨a0, a1, al⟩ := wbox hnb hE9
      have hE99 := hE7.trans' (hE7b.trans' hE9)
      clear hx8 hx9 hnb hE7 hE7b hE9 c0 c1 c2' c3 c4 cl e0 e1 e2 e3 e4 el
      go_wp2
      go_ret
      exact ⟨rfl, by (repeat' (first | exact Ext.refl _ | assumption | apply Ext.allocR | apply Ext.drewR | apply Ext.drewNR | (refine Ext.trans' ?_ (by assumption))))⟩
end Go.Proofs.Ythancaehlijaoaa
