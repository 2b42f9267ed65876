/- gaugerlaw10.SketchUnlike, walked. -/
import Derived.Test.YthancaehlijaoaaBoxes
import Derived.Test.YthancaehlijaoaaSums
import Derived.Test.YthancaehlijaoaaMerge
import Derived.Test.YthancaehlijaoaaJoinLaw
namespace Go.Proofs.Ythancaehlijaoaa
set_option linter.unusedVariables false
open Go.RowKit

theorem zs_getD (n i : Nat) : (zs n).getD i 0 = 0 := by
  unfold zs
  rw [List.getD_eq_getElem?_getD]
  rcases Nat.lt_or_ge i n with h | h
  · simp [h]
  · simp [h]
theorem zs_read (C : Cfg) (lv : Int) (R W n : Nat) (key : Int) (hR : 0 < R) (hr : C.rows = R) : minL (readL W (zs n) (cols C lv key)) = 0 := by
  have hl : (readL W (zs n) (cols C lv key)).length = R := by rw [readL_len, cols_len]; omega
  have hs := minL_spec (readL W (zs n) (cols C lv key)) (by intro e; rw [e] at hl; simp at hl; omega)
  have := hs.1
  simp only [readL, List.mem_map, List.mem_range] at this
  obtain ⟨j, _, hj⟩ := this
  rw [zs_getD] at hj
  exact hj.symm
/-- A first update leaves its number where its columns lie. -/
theorem first_cell (C : Cfg) (hok : C.Ok) (lv : Int) (R W : Nat) (hr : C.rows = R) (hw : C.width = W) (key d : Int) (hd : 0 ≤ d) : (updL C lv R W (zs (R * W)) key d).getD (at_ W (cols C lv key) 0) 0 = d := by
  have hme := cols_meets C hok lv key hr hw
  have hR : 0 < R := by have := hok.r1; omega
  have h0 := hme.lo 0 hR
  have h1 := hme.hi 0 hR
  have hat : at_ W (cols C lv key) 0 = 0 * W + ((cols C lv key).getD 0 0).toNat := rfl
  unfold updL
  cases hm : decide (C.mode = 2)
  · show (putK W _ _ R _).getD _ 0 = _
    rw [hat, putK_get hme (by rw [zs_len]) hR (by omega) R (Nat.le_refl _), if_pos ⟨hR, by omega⟩, zs_getD]
    omega
  · show (putK W _ _ R _).getD _ 0 = _
    rw [hat, putK_get hme (by rw [zs_len]) hR (by omega) R (Nat.le_refl _), if_pos ⟨hR, by omega⟩, zs_getD, zs_read C lv R W _ key hR hr]
    omega
theorem first_ok (C : Cfg) (hok : C.Ok) (lv : Int) (hlv : 0 ≤ lv) (R W : Nat) {d : Int} (hd : 0 ≤ d) (hd2 : d ≤ 1000) : errU C lv R W (zs (R * W)) 0 d = 0 := by
  have hk := keys_bd C hok lv hlv
  refine upd_ok (B := 0) (T := 1000) (fun x hx => ?_) (by omega) (by omega) (by omega) (by omega) (by omega) (fun _ => hd)
  simp only [zs, List.mem_replicate] at hx
  omega
theorem updL_len (C : Cfg) (lv : Int) (R W : Nat) (l : List Int) (key d : Int) : (updL C lv R W l key d).length = l.length := by
  unfold updL
  cases decide (C.mode = 2) <;> exact putK_len _ _ _ _ _
theorem upd_fit {C : Cfg} {lv : Int} {R W : Nat} {d : Int} (hd : 0 ≤ d) (hd2 : d ≤ 1000) : Bnd 1000 (updL C lv R W (zs (R * W)) 0 d) := by
  have := upd_bnd (C := C) (lv := lv) (R := R) (W := W) (l := zs (R * W)) (key := 0) (d := d) (B := 0) (T := 1000) (fun x hx => by simp only [zs, List.mem_replicate] at hx; omega) (by omega) (by omega) (by omega)
  rwa [Int.zero_add] at this
theorem merged_other (C : Cfg) (hok : C.Ok) (lv : Int) (R W : Nat) (hr : C.rows = R) (hw : C.width = W) (a b : Int) (hb : 0 < b) :
    decide (plusL (updL C lv R W (zs (R * W)) 0 a) (updL C lv R W (zs (R * W)) 0 b) = updL C lv R W (zs (R * W)) 0 a) = false := by
  rw [decide_eq_false_iff_not]
  intro he
  have hme := cols_meets C hok lv 0 hr hw
  have hR : 0 < R := by have := hok.r1; omega
  have hlt := hme.at_lt hR
  have h1 := plusL_get (l := updL C lv R W (zs (R * W)) 0 a) (m := updL C lv R W (zs (R * W)) 0 b) (i := at_ W (cols C lv 0) 0) (by rw [updL_len, zs_len]; exact hlt)
  rw [he, first_cell C hok lv R W hr hw 0 b (by omega)] at h1
  omega
theorem plus_fit {a b : List Int} (ha : Bnd 1000 a) (hb : Bnd 1000 b) : allI (plusL a b) := by
  intro x hx
  simp only [plusL, List.mem_map, List.mem_range] at hx
  obtain ⟨j, _, rfl⟩ := hx
  have h1 := ha.getD (by omega) j
  have h2 := hb.getD (by omega) j
  unfold I64; omega
set_option maxRecDepth 20000 in
set_option maxHeartbeats 8000000 in
theorem UnlikeL_c (x : Cfg) (hx : x.Raw) (lx : Int) (hlx : I64 lx) (vx : Value) (y : Cfg) (hy : y.Raw) (ly : Int) (hly : I64 ly) (vy : Value) (w : World) :
    Calls Try.prog 15 #[.agg #[.int .i64 x.bits, .int .i64 x.rows, .int .i64 x.width, .int .i64 x.mode, .int .u64 x.seed, .int .i64 lx, vx], .agg #[.int .i64 y.bits, .int .i64 y.rows, .int .i64 y.width, .int .i64 y.mode, .int .u64 y.seed, .int .i64 ly, vy]] w fun e w' => e = .returned (.bool true) ∧ Ext w w' := by
  go_enter Try.func15, Try.ntmps15
  go_wp2_with fail
  refine (shown_c _).mono ?_
  rintro e w1 ⟨rfl, hb1⟩
  have hE1 : Ext w w1 := by (repeat' (first | exact Ext.refl _ | assumption | apply Ext.allocR | apply Ext.drewR | apply Ext.drewNR | (refine Ext.trans' ?_ (by assumption))))
  have hPx : PlayAt w1 w.heap.size x lx vx := ((PlayAt.box x lx vx 27 rfl).ext (Ext.alloc' _ _)).ext hb1
  have hPy : PlayAt w1 (w.heap.size + 1) y ly vy := (PlayAt.box y ly vy 27 (by rw [size_alloc])).ext hb1
  clear hb1
  have d0 := hPx.c.c0
  have d1 := hPx.c.c1
  have d2 := hPx.c.c2
  have d3 := hPx.c.c3
  have d4 := hPx.c.c4
  have dl := hPx.c.lt
  go_wp2_with fail
  refine Calls.mono (Any_c x hx 8 9 (by decide) (by decide) (by decide) (by decide) _) ?_
  rintro e w2 ⟨rfl, hx2⟩
  have hE2 : Ext w1 w2 := by (repeat' (first | exact Ext.refl _ | assumption | apply Ext.allocR | apply Ext.drewR | apply Ext.drewNR | (refine Ext.trans' ?_ (by assumption))))
  clear hx2 d0 d1 d2 d3 d4 dl
  have hPy2 := hPy.ext hE2
  have d0 := hPy2.c.c0
  have d1 := hPy2.c.c1
  have d2 := hPy2.c.c2
  have d3 := hPy2.c.c3
  have d4 := hPy2.c.c4
  have dl := hPy2.c.lt
  have hC : CfgAt (w2.alloc (.cells #[.int .i64 (mkC x 8 9).bits, .int .i64 (mkC x 8 9).rows, .int .i64 (mkC x 8 9).width, .int .i64 (mkC x 8 9).mode, .int .u64 (mkC x 8 9).seed] 24)) w2.heap.size (mkC x 8 9) := CfgAt.box _ _ rfl
  go_wp2_with fail
  refine Calls.mono (Any_c y hy 8 9 (by decide) (by decide) (by decide) (by decide) _) ?_
  rintro e w3 ⟨rfl, hx3⟩
  have hC3 := hC.ext hx3
  have hE3 : Ext w2 w3 := by (repeat' (first | exact Ext.refl _ | assumption | apply Ext.allocR | apply Ext.drewR | apply Ext.drewNR | (refine Ext.trans' ?_ (by assumption))))
  have hD : CfgAt (w3.alloc (.cells #[.int .i64 (mkC y 8 9).bits, .int .i64 (mkC y 8 9).rows, .int .i64 (mkC y 8 9).width, .int .i64 (mkC y 8 9).mode, .int .u64 (mkC y 8 9).seed] 24)) w3.heap.size (mkC y 8 9) := CfgAt.box _ _ rfl
  have hPx3 := hPx.ext (hE2.trans' hE3)
  have hPy3 := hPy.ext (hE2.trans' hE3)
  clear hx3 d0 d1 d2 d3 d4 dl hPy2 hC
  have okC := mkC_ok x hx.s (nb := 8) (nw := 9) (by decide) (by decide) (by decide) (by decide)
  have okD := mkC_ok y hy.s (nb := 8) (nw := 9) (by decide) (by decide) (by decide) (by decide)
  have hEw : Ext w w3 := hE1.trans' (hE2.trans' hE3)
  generalize mkC x 8 9 = C at *
  generalize mkC y 8 9 = D at *
  have hax := and16 lx
  have hay := and16 ly
  have n1 := Int.emod_nonneg lx (show (65536 : Int) ≠ 0 by decide)
  have n2 := Int.emod_nonneg ly (show (65536 : Int) ≠ 0 by decide)
  have n3 := Int.emod_lt_of_pos lx (show (0 : Int) < 65536 by decide)
  have n4 := Int.emod_lt_of_pos ly (show (0 : Int) < 65536 by decide)
  have bb1 := okC.b1
  have bb2 := okC.b2
  have bb3 := okD.b1
  have bb4 := okD.b2
  have i1 := Int.emod_nonneg (lx % 65536) (show C.bits + 1 ≠ 0 by omega)
  have i2 := Int.emod_lt_of_pos (lx % 65536) (show 0 < C.bits + 1 by omega)
  have i3 := Int.emod_nonneg (ly % 65536) (show D.bits + 1 ≠ 0 by omega)
  have i4 := Int.emod_lt_of_pos (ly % 65536) (show 0 < D.bits + 1 by omega)
  have p0 := hPx3.c5
  have p1 := hPx3.c.lt
  have p2 := hPy3.c5
  have p3 := hPy3.c.lt
  have p4 := hC3.c0
  have p5 := hC3.lt
  have q1 := hC3.c1
  have q2 := hC3.c2
  have q3 := hC3.c3
  have q4 := hC3.c4
  have z1 : (C.bits + 1 == 0) = false := by simp; omega
  have z2 : (D.bits + 1 == 0) = false := by simp; omega
  obtain ⟨R, hR⟩ : ∃ R : Nat, C.rows = R := ⟨C.rows.toNat, by have := okC.r1; omega⟩
  obtain ⟨W, hW⟩ : ∃ W : Nat, C.width = W := ⟨C.width.toNat, by have := okC.w1; omega⟩
  obtain ⟨R2, hR2⟩ : ∃ R : Nat, D.rows = R := ⟨D.rows.toNat, by have := okD.r1; omega⟩
  obtain ⟨W2, hW2⟩ : ∃ W : Nat, D.width = W := ⟨D.width.toNat, by have := okD.w1; omega⟩
  have HR := Lib.hid hR
  have HW := Lib.hid hW
  have HR2 := Lib.hid hR2
  have HW2 := Lib.hid hW2
  clear hR hW hR2 hW2
  go_wp2_with fail
  generalize lx % 65536 % (C.bits + 1) = I at *
  generalize ly % 65536 % (D.bits + 1) = J at *
  have HC3 := Lib.hid hC3
  have HD := Lib.hid hD
  have hEB : Ext w3 (w3.alloc (.cells #[.int .i64 D.bits, .int .i64 D.rows, .int .i64 D.width, .int .i64 D.mode, .int .u64 D.seed] 24)) := Ext.alloc' _ _
  clear hPx hPy hPx3 hPy3 hC3 hD hax hay n1 n2 n3 n4 p0 p1 p2 p3 p4 p5 q1 q2 q3 q4 z1 z2 hE1 hE2 hE3
  generalize w3.alloc (.cells #[.int .i64 D.bits, .int .i64 D.rows, .int .i64 D.width, .int .i64 D.mode, .int .u64 D.seed] 24) = wB at *
  have hCB := HC3.out.ext hEB
  have hEwB : Ext w wB := hEw.trans' hEB
  have HCB := Lib.hid hCB
  clear hCB HC3 hEB hEw
  refine Calls.mono (SNew_c C okC I i1 (by omega) R W HR.out HW.out _) ?_
  rintro e w4 ⟨s, b, c, rfl, hS, hs, hb, hc, hx4⟩
  have hE4 : Ext wB w4 := by (repeat' (first | exact Ext.refl _ | assumption | apply Ext.allocR | apply Ext.drewR | apply Ext.drewNR | (refine Ext.trans' ?_ (by assumption))))
  have hD4 := HD.out.ext hE4
  have d0 := hD4.c0
  have d1 := hD4.c1
  have d2 := hD4.c2
  have d3 := hD4.c3
  have d4 := hD4.c4
  have dl := hD4.lt
  have hlt1 := hS.lts
  have hlt2 := hS.g.ltb
  have hlt3 := hS.g.ltc
  have hwB := hEwB.size
  clear hx4 hD4
  go_wp2_with fail
  refine Calls.mono (SNew_c D okD J i3 (by omega) R2 W2 HR2.out HW2.out _) ?_
  rintro e w5 ⟨s2, b2, c2, rfl, hS2, hs2, hb2, hc2, hx5⟩
  have hE5 : Ext w4 w5 := by (repeat' (first | exact Ext.refl _ | assumption | apply Ext.allocR | apply Ext.drewR | apply Ext.drewNR | (refine Ext.trans' ?_ (by assumption))))
  have hlt4 := hS2.lts
  have hlt5 := hS2.g.ltb
  have hlt6 := hS2.g.ltc
  have hS5 := hS.ext hE5
  have hE45 := hE4.trans' hE5
  have hsz5 := hE5.size
  have HS5 := Lib.hid hS5
  have HS2 := Lib.hid hS2
  have lC := HCB.out.lt
  have lD := HD.out.lt
  have hk1 := keys_bd C okC I i1
  have hk2 := keys_bd D okD J i3
  have HCB5 := Lib.hid (HCB.out.ext hE45)
  have HD5 := Lib.hid (HD.out.ext hE45)
  have hEw5 := hEwB.trans' hE45
  clear hx5 d0 d1 d2 d3 d4 dl hS hS2 hE5 hE4 hE45 hS5 HCB HD hEwB
  go_wp2_with fail
  refine Calls.mono (Update_c s b c C I R W _ 0 5 _ (HS5.out.ext ?hx) (by unfold I64; omega) (by decide)) ?_
  case hx => (repeat' (first | exact Ext.refl _ | assumption | apply Ext.allocR | apply Ext.drewR | apply Ext.drewNR | (refine Ext.trans' ?_ (by assumption))))
  rintro e w6 ⟨rfl, hup⟩
  have he5 := first_ok C okC I i1 R W (d := 5) (by decide) (by decide)
  have he3 := first_ok D okD J i3 R2 W2 (d := 3) (by decide) (by decide)
  obtain ⟨_, hS6, hM6⟩ := hup.resolve_right (fun h => h.1 he5)
  rw [he5]
  have HE3 := Lib.hid he3
  clear hup he5 he3
  have hcl : ¬ s2 = c ∧ ¬ b2 = c ∧ ¬ c2 = c := by omega
  have hT6 := HS2.out.mod hM6 hcl.1 hcl.2.1 hcl.2.2
  have hC6 := HCB5.out.mod hM6 (by omega)
  have hD6 := HD5.out.mod hM6 (by omega)
  have hEw6 : Ext w w6 := Below.trans hEw5 (hM6.below (B := w.heap.size) (by omega) (fun i hi => by omega))
  have hsz6 := hM6.size
  have HS6 := Lib.hid hS6
  have HT6 := Lib.hid hT6
  have HC6 := Lib.hid hC6
  have HD6 := Lib.hid hD6
  clear hS6 hT6 hC6 hD6 hM6 HCB5 HD5 HS5 HS2
  go_wp2_with fail
  refine Calls.mono (Update_c s2 b2 c2 D J R2 W2 _ 0 3 _ (HT6.out.ext ?hx) (by unfold I64; omega) (by decide)) ?_
  case hx => (repeat' (first | exact Ext.refl _ | assumption | apply Ext.allocR | apply Ext.drewR | apply Ext.drewNR | (refine Ext.trans' ?_ (by assumption))))
  rintro e w7 ⟨rfl, hup⟩
  obtain ⟨_, hT7, hM7⟩ := hup.resolve_right (fun h => h.1 HE3.out)
  rw [HE3.out]
  clear hup
  have hS7 := HS6.out.mod hM7 (by omega) (by omega) (by omega)
  have hC7 := HC6.out.mod hM7 (by omega)
  have hD7 := HD6.out.mod hM7 (by omega)
  have hEw7 : Ext w w7 := Below.trans hEw6 (hM7.below (B := w.heap.size) (by omega) (fun i hi => by omega))
  have hsz7 := hM7.size
  have HS7 := Lib.hid hS7
  have HT7 := Lib.hid hT7
  have HC7 := Lib.hid hC7
  have HD7 := Lib.hid hD7
  clear hS7 hT7 hC7 hD7 hM7 HS6 HT6 HC6 HD6
  go_wp2_with fail
  refine Calls.mono (SMerge_nil s _) ?_
  rintro e w8 ⟨rfl, hx8⟩
  have hE8 : Ext w7 w8 := by (repeat' (first | exact Ext.refl _ | assumption | apply Ext.allocR | apply Ext.drewR | apply Ext.drewNR | (refine Ext.trans' ?_ (by assumption))))
  clear hx8
  go_wp2_with fail
  refine Calls.mono (SSubtract_nil s _) ?_
  rintro e w9 ⟨rfl, hx9⟩
  have hE9 : Ext w7 w9 := hE8.trans' (by (repeat' (first | exact Ext.refl _ | assumption | apply Ext.allocR | apply Ext.drewR | apply Ext.drewNR | (refine Ext.trans' ?_ (by assumption)))))
  clear hx9
  have hsz9 := hE9.size
  go_wp2_with fail
  refine Calls.mono (SCells_c s b c C I R W _ _ ((HS7.out.ext hE9).ext ?hx)) ?_
  case hx => (repeat' (first | exact Ext.refl _ | assumption | apply Ext.allocR | apply Ext.drewR | apply Ext.drewNR | (refine Ext.trans' ?_ (by assumption))))
  rintro e w10 ⟨v10, rfl, ho10, _, hx10⟩
  have hE10 : Ext w7 w10 := hE9.trans' (by (repeat' (first | exact Ext.refl _ | assumption | apply Ext.allocR | apply Ext.drewR | apply Ext.drewNR | (refine Ext.trans' ?_ (by assumption)))))
  have hn10 := own_ne ho10 (c := c) (by first | omega | (simp only [size_alloc]; omega))
  have hi10 := IntsAt.of_row ho10
  have hN1 : 1 ≤ R * W := Nat.mul_pos HS7.out.g.r1 HS7.out.g.w1
  have hN2 : R * W ≤ 1024 := Nat.le_trans (Nat.mul_le_mul HS7.out.g.r2 HS7.out.g.w2) (by decide)
  have hlen : (updL C I R W (zs (R * W)) 0 5).length = R * W := by rw [updL_len, zs_len]
  have HLEN := Lib.hid hlen
  clear hlen
  have HI10 := Lib.hid hi10
  have HN10 := Lib.hid hn10
  have hsz10 := hE10.size
  have hS10 := Lib.hid (HS7.out.ext hE10)
  have hT10 := Lib.hid (HT7.out.ext hE10)
  have hC10 := Lib.hid (HC7.out.ext hE10)
  have hD10 := Lib.hid (HD7.out.ext hE10)
  have hEw10 := hEw7.trans' hE10
  clear hi10 hn10 ho10 hx10 hE8 hE9 hE10 HS7 HT7 HC7 HD7 hEw7 hEw6 hEw5
  rcases parts_or D J C I with ⟨rfl, rfl⟩ | hp
  · obtain rfl : R = R2 := by have h1 := HR.out; have h2 := HR2.out; omega
    obtain rfl : W = W2 := by have h1 := HW.out; have h2 := HW2.out; omega
    go_wp2_with fail
    refine Calls.mono (SMerge_c s b c s2 b2 c2 D J R W _ _ _ (hS10.out.ext ?hx) (hT10.out.ext ?hy)) ?_
    case hx => (repeat' (first | exact Ext.refl _ | assumption | apply Ext.allocR | apply Ext.drewR | apply Ext.drewNR | (refine Ext.trans' ?_ (by assumption))))
    case hy => (repeat' (first | exact Ext.refl _ | assumption | apply Ext.allocR | apply Ext.drewR | apply Ext.drewNR | (refine Ext.trans' ?_ (by assumption))))
    intro e w11 hr
    rcases hr with ⟨ha, rfl, hS11, hM11⟩ | ⟨ha, _⟩
    rotate_left
    · exact absurd (plus_fit (upd_fit (by decide) (by decide)) (upd_fit (by decide) (by decide))) ha
    · have hC11 := hC10.out.mod hM11 (by omega)
      have hD11 := hD10.out.mod hM11 (by omega)
      have hI11 := HI10.out.mod hM11 HN10.out
      have hEw11 : Ext w w11 := Below.trans hEw10 (hM11.below (B := w.heap.size) (by omega) (fun i hi => by omega))
      have HS11 := Lib.hid hS11
      have HI11 := Lib.hid hI11
      clear hS11 hM11 ha hI11
      have d0 := hC11.c0
      have d1 := hC11.c1
      have d2 := hC11.c2
      have d3 := hC11.c3
      have d4 := hC11.c4
      have dl := hC11.lt
      have e0 := hD11.c0
      have e1 := hD11.c1
      have e2 := hD11.c2
      have e3 := hD11.c3
      have e4 := hD11.c4
      have el := hD11.lt
      clear hC11 hD11
      go_wp2_with fail
      refine Calls.mono (SCells_c s b c D J R W _ _ (HS11.out.ext ?hx)) ?_
      case hx => (repeat' (first | exact Ext.refl _ | assumption | apply Ext.allocR | apply Ext.drewR | apply Ext.drewNR | (refine Ext.trans' ?_ (by assumption))))
      rintro e w12 ⟨v12, rfl, ho12, _, hx12⟩
      have hE12 : Ext w11 w12 := by (repeat' (first | exact Ext.refl _ | assumption | apply Ext.allocR | apply Ext.drewR | apply Ext.drewNR | (refine Ext.trans' ?_ (by assumption))))
      have HI12 := Lib.hid (IntsAt.of_row ho12)
      clear ho12 hx12 d0 d1 d2 d3 d4 dl e0 e1 e2 e3 e4 el
      go_wp2_with fail
      refine Calls.mono (Same_c _ _ _ _ _ (HI12.out.ext ?hx) ((HI11.out.ext hE12).ext ?hy) (by rw [plusL_len, HLEN.out]; omega) (by rw [HLEN.out]; omega)) ?_
      case hx => (repeat' (first | exact Ext.refl _ | assumption | apply Ext.allocR | apply Ext.drewR | apply Ext.drewNR | (refine Ext.trans' ?_ (by assumption))))
      case hy => (repeat' (first | exact Ext.refl _ | assumption | apply Ext.allocR | apply Ext.drewR | apply Ext.drewNR | (refine Ext.trans' ?_ (by assumption))))
      rintro e w13 ⟨rfl, hx13⟩
      rw [merged_other D okD J R W HR.out HW.out 5 3 (by decide)]
      have hEnd : Ext w w13 := (hEw11.trans' hE12).trans' (by (repeat' (first | exact Ext.refl _ | assumption | apply Ext.allocR | apply Ext.drewR | apply Ext.drewNR | (refine Ext.trans' ?_ (by assumption)))))
      go_wp2
      go_ret
      exact ⟨rfl, hEnd⟩
  · rcases parts_or C I D J with ⟨rfl, rfl⟩ | hp2
    · exfalso
      rcases hp with h | ⟨h0, h⟩ | ⟨h0, h1, h⟩ | ⟨h0, h1, h2, h⟩ | ⟨h0, h1, h2, h3, h⟩ | ⟨h0, h1, h2, h3, h4, h⟩ <;> simp at h
    · have HPP := Lib.hid hp
      clear hp
      go_wp2_with fail
      refine Calls.mono (SMerge_no s b c s2 b2 c2 C D I J R W R2 W2 _ _ _ (hS10.out.ext ?hx) (hT10.out.ext ?hy) HPP.out) ?_
      case hx => (repeat' (first | exact Ext.refl _ | assumption | apply Ext.allocR | apply Ext.drewR | apply Ext.drewNR | (refine Ext.trans' ?_ (by assumption))))
      case hy => (repeat' (first | exact Ext.refl _ | assumption | apply Ext.allocR | apply Ext.drewR | apply Ext.drewNR | (refine Ext.trans' ?_ (by assumption))))
      rintro e w11 ⟨rfl, hx11⟩
      have hE11 : Ext w10 w11 := by (repeat' (first | exact Ext.refl _ | assumption | apply Ext.allocR | apply Ext.drewR | apply Ext.drewNR | (refine Ext.trans' ?_ (by assumption))))
      have hC11 := hC10.out.ext hE11
      have hD11 := hD10.out.ext hE11
      clear hx11
      have d0 := hC11.c0
      have d1 := hC11.c1
      have d2 := hC11.c2
      have d3 := hC11.c3
      have d4 := hC11.c4
      have dl := hC11.lt
      have e0 := hD11.c0
      have e1 := hD11.c1
      have e2 := hD11.c2
      have e3 := hD11.c3
      have e4 := hD11.c4
      have el := hD11.lt
      clear hC11 hD11
      rcases hp2 with h | ⟨h0, h⟩ | ⟨h0, h1, h⟩ | ⟨h0, h1, h2, h⟩ | ⟨h0, h1, h2, h3, h⟩ | ⟨h0, h1, h2, h3, h4, h⟩
      all_goals
        go_wp2_with fail
        refine Calls.mono (SSubtract_no s b c s2 b2 c2 C D I J R W R2 W2 _ _ _ ((hS10.out.ext hE11).ext (by (repeat' (first | exact Ext.refl _ | assumption | apply Ext.allocR | apply Ext.drewR | apply Ext.drewNR | (refine Ext.trans' ?_ (by assumption)))))) ((hT10.out.ext hE11).ext (by (repeat' (first | exact Ext.refl _ | assumption | apply Ext.allocR | apply Ext.drewR | apply Ext.drewNR | (refine Ext.trans' ?_ (by assumption)))))) HPP.out) ?_
        rintro e w12 ⟨rfl, hx12⟩
        have hE12 : Ext w10 w12 := hE11.trans' (by (repeat' (first | exact Ext.refl _ | assumption | apply Ext.allocR | apply Ext.drewR | apply Ext.drewNR | (refine Ext.trans' ?_ (by assumption)))))
        clear hx12
        go_wp2_with fail
        refine Calls.mono (SCells_c s b c C I R W _ _ ((hS10.out.ext hE12).ext (by (repeat' (first | exact Ext.refl _ | assumption | apply Ext.allocR | apply Ext.drewR | apply Ext.drewNR | (refine Ext.trans' ?_ (by assumption))))))) ?_
        rintro e w13 ⟨v13, rfl, ho13, _, hx13⟩
        have hE13 : Ext w10 w13 := hE12.trans' (by (repeat' (first | exact Ext.refl _ | assumption | apply Ext.allocR | apply Ext.drewR | apply Ext.drewNR | (refine Ext.trans' ?_ (by assumption)))))
        have HI13 := Lib.hid (IntsAt.of_row ho13)
        clear ho13 hx13
        go_wp2_with fail
        refine Calls.mono (Same_c _ _ _ _ _ (HI13.out.ext (by (repeat' (first | exact Ext.refl _ | assumption | apply Ext.allocR | apply Ext.drewR | apply Ext.drewNR | (refine Ext.trans' ?_ (by assumption)))))) ((HI10.out.ext hE13).ext (by (repeat' (first | exact Ext.refl _ | assumption | apply Ext.allocR | apply Ext.drewR | apply Ext.drewNR | (refine Ext.trans' ?_ (by assumption)))))) (by rw [HLEN.out]; omega) (by rw [HLEN.out]; omega)) ?_
        rintro e w14 ⟨rfl, hx14⟩
        rw [decide_eq_true rfl]
        have hEnd : Ext w w14 := (hEw10.trans' hE13).trans' (by (repeat' (first | exact Ext.refl _ | assumption | apply Ext.allocR | apply Ext.drewR | apply Ext.drewNR | (refine Ext.trans' ?_ (by assumption)))))
        go_wp2
        go_ret
        exact ⟨rfl, hEnd⟩
end Go.Proofs.Ythancaehlijaoaa
