/- Part. No condition. -/
import Derived.Test.YtdenbmmbeeamcaaGreatL12

/- gaugerref02.Minus, Int, Add. -/
namespace Go.Proofs.YtdenbmmbeeamcaaGreat
set_option linter.unusedVariables false
open Go.RowKit
theorem not_dg (x : Int) (i : Nat) : 65535 - dg x i = dg (-1 - x) i := by
  have hp := pw_pos i
  unfold dg
  generalize (65536 ^ i : Int) = M at *
  have e : (-1 - x) / M = -1 - x / M := by
    have h1 := Int.emod_add_mul_ediv x M
    have h2 := Int.emod_nonneg x (show M ≠ 0 by omega)
    have h3 := Int.emod_lt_of_pos x hp
    have h4 : -1 - x = (M - 1 - x % M) + M * (-1 - x / M) := by rw [Int.mul_sub]; omega
    rw [h4, Int.add_mul_ediv_left _ _ (show M ≠ 0 by omega), Int.ediv_eq_zero_of_lt (by omega) (by omega)]
    omega
  rw [e]
  omega
theorem fitB_I {x : Int} (h : fitB x = true) : I64 x := of_decide_eq_true (p := -9223372036854775808 ≤ x ∧ x ≤ 9223372036854775807) h
theorem one_dg : longV 1 = .agg #[.int .i64 1, .int .i64 0, .int .i64 0, .int .i64 0, .int .i64 0, .int .i64 0, .int .i64 0, .int .i64 0, .int .i64 0, .int .i64 0] := by
  unfold longV longA
  rw [show dg 1 0 = 1 from by decide, show dg 1 1 = 0 from by decide, show dg 1 2 = 0 from by decide, show dg 1 3 = 0 from by decide, show dg 1 4 = 0 from by decide, show dg 1 5 = 0 from by decide, show dg 1 6 = 0 from by decide, show dg 1 7 = 0 from by decide, show dg 1 8 = 0 from by decide, show dg 1 9 = 0 from by decide]
set_option maxRecDepth 20000 in
set_option maxHeartbeats 8000000 in
theorem Minus_core (d S T : Nat → Int) (hd : ∀ i, 0 ≤ d i ∧ d i ≤ 65535) (hS : ∀ i, 65535 - d i = S i)
    (hP : ∀ w' : World, Calls Tryz.prog 108 #[longA S, longV 1] w' fun e w'' => e = .returned (longA T) ∧ Ext w' w'') (w : World) :
    Calls Tryz.prog 110 #[longA d] w fun e w' => e = .returned (longA T) ∧ Ext w w' := by
  rw [one_dg] at hP
  unfold longA at hP ⊢
  have HD := Lib.hid hd
  have HS := Lib.hid hS
  have HP := Lib.hid hP
  clear hd hS hP
  go_enter Tryz.func110, Tryz.ntmps110
  go_wp2_with fail
  go_loopw [4] (fun u wr => ∃ i : Nat, i ≤ 10 ∧ u = .int .i64 i ∧ Ext w wr ∧ LongAt wr w.heap.size d ∧ LongAt wr (w.heap.size + 1) (fun _ => 0) ∧ LongAt wr (w.heap.size + 1 + 1) (fun j => if j < i then S j else 0)) (fun u _ => 10 - (intOf u).toNat)
  case atStart =>
    refine ⟨0, Nat.zero_le _, rfl, ((Ext.alloc' _ _).allocR _).allocR _, ?_, ?_, ?_⟩
    · unfold LongAt
      rw [fill10, heap_old _ _ (by simp only [size_alloc]; omega), heap_old _ _ (by simp only [size_alloc]; omega)]
      exact heap_at _ _ rfl
    · unfold LongAt
      rw [fill10, heap_old _ _ (by simp only [size_alloc]; omega)]
      exact heap_at _ _ (by simp only [size_alloc])
    · unfold LongAt
      rw [fill10]
      exact heap_at _ _ (by simp only [size_alloc])
  case round =>
    obtain ⟨i, hi, rfl, hE, hA, hR, hO⟩ := hrel
    by_cases hlt : i < 10
    · have x0 := hA.cell hlt
      have hb := HD.out i
      have hs := HS.out i
      have y0 := hO.cell hlt
      have f0 : wr.frozen? ⟨w.heap.size + 1 + 1, i, none⟩ = false := frozen_of hO i
      have l0 := lt_of hA
      have l2 := lt_of hO
      obtain ⟨hb1, hb2⟩ := hb
      generalize hdi : d i = di at *
      have HA := Lib.hid hA
      have HR := Lib.hid hR
      have HO := Lib.hid hO
      have HSI := Lib.hid hs
      clear hA hR hO hs hdi
      go_wp2
      go_roundw
      case rel =>
        refine ⟨i + 1, by omega, by go_num, hE.setR (p := ⟨w.heap.size + 1 + 1, i, none⟩) (by show _ ≤ w.heap.size + 1 + 1; omega) _, HA.out.keep (setCell_other _ _ (by omega)), HR.out.keep (setCell_other _ _ (by omega)), ?_⟩
        rw [HSI.out]
        refine (HO.out.put hlt (S i)).congr (fun j hj => ?_)
        by_cases e : j = i
        · subst e; rw [if_pos rfl, if_pos (by omega)]
        · rw [if_neg e]
          by_cases h : j < i
          · rw [if_pos h, if_pos (by omega)]
          · rw [if_neg h, if_neg (by omega)]
      case measure => simp [intOf]; omega
    · obtain rfl : i = 10 := by omega
      have hO' : LongAt wr (w.heap.size + 1 + 1) S := hO.congr (fun j hj => if_pos hj)
      have z0 := hO'.cell (k := 0) (by decide)
      have z1 := hO'.cell (k := 1) (by decide)
      have z2 := hO'.cell (k := 2) (by decide)
      have z3 := hO'.cell (k := 3) (by decide)
      have z4 := hO'.cell (k := 4) (by decide)
      have z5 := hO'.cell (k := 5) (by decide)
      have z6 := hO'.cell (k := 6) (by decide)
      have z7 := hO'.cell (k := 7) (by decide)
      have z8 := hO'.cell (k := 8) (by decide)
      have z9 := hO'.cell (k := 9) (by decide)
      have l2 := lt_of hO'
      have lR := lt_of hR
      have HR := Lib.hid hR
      clear hA hO hO' hR
      go_wp2_with fail
      refine Calls.mono (HP.out _) ?_
      rintro e w5 ⟨rfl, hx5⟩
      have hR5 : w5.heap[w.heap.size + 1]? = some (.cells (fillA (fun _ => 0) 10 10) 133 (0, 0)) := by
        refine hx5.keep ?_
        rw [heap_old _ _ lR]
        exact HR.out
      have hE5 : Ext w w5 := by
        exact (hE.allocR _).trans' hx5
      rw [fill10] at hR5
      have p0 := (cell_of hR5 0).trans rfl
      have f0 := frozen_of hR5 0
      have p1 := (cell_of hR5 1).trans rfl
      have f1 := frozen_of hR5 1
      have p2 := (cell_of hR5 2).trans rfl
      have f2 := frozen_of hR5 2
      have p3 := (cell_of hR5 3).trans rfl
      have f3 := frozen_of hR5 3
      have p4 := (cell_of hR5 4).trans rfl
      have f4 := frozen_of hR5 4
      have p5 := (cell_of hR5 5).trans rfl
      have f5 := frozen_of hR5 5
      have p6 := (cell_of hR5 6).trans rfl
      have f6 := frozen_of hR5 6
      have p7 := (cell_of hR5 7).trans rfl
      have f7 := frozen_of hR5 7
      have p8 := (cell_of hR5 8).trans rfl
      have f8 := frozen_of hR5 8
      have p9 := (cell_of hR5 9).trans rfl
      have f9 := frozen_of hR5 9
      have l5 := lt_of hR5
      have HR5 := Lib.hid hR5
      clear hR5 hx5 z0 z1 z2 z3 z4 z5 z6 z7 z8 z9
      go_wp2_with fail
      refine fin10 (Φ := fun W' => bodyPost _ _ _ _ _ W') HR5.out hE5 (Nat.le_succ _) (fun W' hW hEW => ?_)
      clear p0 f0 p1 f1 p2 f2 p3 f3 p4 f4 p5 f5 p6 f6 p7 f7 p8 f8 p9 f9
      have r0 := (cell_of hW 0).trans rfl
      have r1 := (cell_of hW 1).trans rfl
      have r2 := (cell_of hW 2).trans rfl
      have r3 := (cell_of hW 3).trans rfl
      have r4 := (cell_of hW 4).trans rfl
      have r5 := (cell_of hW 5).trans rfl
      have r6 := (cell_of hW 6).trans rfl
      have r7 := (cell_of hW 7).trans rfl
      have r8 := (cell_of hW 8).trans rfl
      have r9 := (cell_of hW 9).trans rfl
      refine bodyPost_ret (v := .agg #[.int .i64 (T 0), .int .i64 (T 1), .int .i64 (T 2), .int .i64 (T 3), .int .i64 (T 4), .int .i64 (T 5), .int .i64 (T 6), .int .i64 (T 7), .int .i64 (T 8), .int .i64 (T 9)]) ?_ rfl ⟨rfl, hEW⟩
      simp [results, Tryz.results110, go_sem, r0, r1, r2, r3, r4, r5, r6, r7, r8, r9]
theorem LMinus_c (x : Int) (w : World) : Calls Tryz.prog 110 #[longV x] w fun e w' => e = .returned (longV (-x)) ∧ Ext w w' :=
  Minus_core (dg x) (dg (-1 - x)) (dg (-x)) (dg_bd x) (not_dg x) (fun w' => by have := LPlus_c (-1 - x) 1 w'; rw [show -1 - x + 1 = -x by omega] at this; exact this) w
set_option maxRecDepth 20000 in
set_option maxHeartbeats 8000000 in
theorem Int_core (d D : Nat → Int) (hd : ∀ i, 0 ≤ d i ∧ d i ≤ 65535) (L : Nat → Int) (ok : Bool) (l0 : L 0 = 0)
    (hl0 : bits BinOp.or IntKind.u64 (L 0) (d 0) = L 1) (hl1 : bits BinOp.or IntKind.u64 (L 1) (d 1 * 65536) = L 2) (hl2 : bits BinOp.or IntKind.u64 (L 2) (d 2 * 4294967296) = L 3) (hl3 : bits BinOp.or IntKind.u64 (L 3) (d 3 * 281474976710656) = L 4)
    (z : Int) (hw : wrap64 (L 4) = z)
    (hOf : ∀ w' : World, Calls Tryz.prog 109 #[.int .i64 z] w' fun e w'' => e = .returned (longA D) ∧ Ext w' w'')
    (hcmp : ((∀ j, j < 10 → D j = d j) ∧ ok = true) ∨ ((∀ j, j < 4 → D j = d j) ∧ ok = false ∧ ((D 4 == d 4 && (D 5 == d 5 && (D 6 == d 6 && (D 7 == d 7 && (D 8 == d 8 && D 9 == d 9))))) = false))) (w : World) :
    Calls Tryz.prog 86 #[longA d] w fun e w' => e = .returned (bif ok then .tuple #[.int .i64 z, .bool true] else .tuple #[.int .i64 0, .bool false]) ∧ Ext w w' := by
  have HD := Lib.hid hd
  have HL0 := Lib.hid hl0
  have HL1 := Lib.hid hl1
  have HL2 := Lib.hid hl2
  have HL3 := Lib.hid hl3
  have HW := Lib.hid hw
  have L0 := Lib.hid l0
  have HCMP := Lib.hid hcmp
  unfold longA at hOf ⊢
  have HOF := Lib.hid hOf
  clear hd hl0 hl1 hl2 hl3 hw l0 hOf hcmp
  go_enter Tryz.func86, Tryz.ntmps86
  go_wp2_with fail
  go_loopw [4, 5] (fun u4 u5 wr => ∃ i : Nat, i ≤ 4 ∧ u4 = .int .u64 (L i) ∧ u5 = .int .i64 i ∧ Ext w wr ∧ LongAt wr w.heap.size d) (fun _ u5 _ => 4 - (intOf u5).toNat)
  case atStart =>
    refine ⟨0, Nat.zero_le _, by rw [L0.out], rfl, Ext.alloc' _ _, ?_⟩
    unfold LongAt
    rw [fill10]
    exact heap_at _ _ rfl
  case round =>
    obtain ⟨i, hi, rfl, rfl, hE, hA⟩ := hrel
    have l0 := lt_of hA
    have hc : i = 0 ∨ i = 1 ∨ i = 2 ∨ i = 3 ∨ i = 4 := by omega
    rcases hc with rfl | rfl | rfl | rfl | rfl
    · have x0 := hA.cell (k := 0) (by decide)
      obtain ⟨d1l, d1h⟩ := HD.out 0
      have hl := HL0.out
      generalize d 0 = d1 at *
      generalize L 0 = L1 at *
      have HLf := Lib.hid hl
      have HA := Lib.hid hA
      clear hl hA
      go_wp2_with fail
      go_roundw
      case rel => exact ⟨1, by decide, congrArg _ HLf.out, by go_num, hE, HA.out⟩
      case measure => simp [intOf]
    · have x0 := hA.cell (k := 1) (by decide)
      obtain ⟨d1l, d1h⟩ := HD.out 1
      have hl := HL1.out
      generalize d 1 = d1 at *
      generalize L 1 = L1 at *
      have HLf := Lib.hid hl
      have HA := Lib.hid hA
      clear hl hA
      go_wp2_with fail
      go_roundw
      case rel => exact ⟨2, by decide, congrArg _ HLf.out, by go_num, hE, HA.out⟩
      case measure => simp [intOf]
    · have x0 := hA.cell (k := 2) (by decide)
      obtain ⟨d1l, d1h⟩ := HD.out 2
      have hl := HL2.out
      generalize d 2 = d1 at *
      generalize L 2 = L1 at *
      have HLf := Lib.hid hl
      have HA := Lib.hid hA
      clear hl hA
      go_wp2_with fail
      go_roundw
      case rel => exact ⟨3, by decide, congrArg _ HLf.out, by go_num, hE, HA.out⟩
      case measure => simp [intOf]
    · have x0 := hA.cell (k := 3) (by decide)
      obtain ⟨d1l, d1h⟩ := HD.out 3
      have hl := HL3.out
      generalize d 3 = d1 at *
      generalize L 3 = L1 at *
      have HLf := Lib.hid hl
      have HA := Lib.hid hA
      clear hl hA
      go_wp2_with fail
      go_roundw
      case rel => exact ⟨4, by decide, congrArg _ HLf.out, by go_num, hE, HA.out⟩
      case measure => simp [intOf]
    · have z0 := hA.cell (k := 0) (by decide)
      have z1 := hA.cell (k := 1) (by decide)
      have z2 := hA.cell (k := 2) (by decide)
      have z3 := hA.cell (k := 3) (by decide)
      have z4 := hA.cell (k := 4) (by decide)
      have z5 := hA.cell (k := 5) (by decide)
      have z6 := hA.cell (k := 6) (by decide)
      have z7 := hA.cell (k := 7) (by decide)
      have z8 := hA.cell (k := 8) (by decide)
      have z9 := hA.cell (k := 9) (by decide)
      have hwf := HW.out
      have HA := Lib.hid hA
      rcases HCMP.out with ⟨hall, rfl⟩ | ⟨hall, rfl, hne⟩
      · have g0 := hall 0 (by decide)
        have g1 := hall 1 (by decide)
        have g2 := hall 2 (by decide)
        have g3 := hall 3 (by decide)
        have g4 := hall 4 (by decide)
        have g5 := hall 5 (by decide)
        have g6 := hall 6 (by decide)
        have g7 := hall 7 (by decide)
        have g8 := hall 8 (by decide)
        have g9 := hall 9 (by decide)
        clear hall hA
        go_wp2_with fail
        refine wp_region_after (by kernel_rfl) (by kernel_rfl) ?_
        repeat (go_big_quiet_step ((go_at_call 109; exact quiet_after (HOF.out _))))
        refine wpQuiet_nil ?_
        rintro _ ⟨xx, rfl⟩
        obtain ⟨wq, hq⟩ := xx
        try dsimp only
        go_wp2_with fail
        refine bodyPost_ret (v := .tuple #[.int .i64 z, .bool true]) (by simp [results, Tryz.results86, go_sem, *]) rfl ⟨rfl, hE.trans' hq⟩
      · have g0 := hall 0 (by decide)
        have g1 := hall 1 (by decide)
        have g2 := hall 2 (by decide)
        have g3 := hall 3 (by decide)
        clear hall hA
        go_wp2_with fail
        refine wp_region_after (by kernel_rfl) (by kernel_rfl) ?_
        repeat (go_big_quiet_step ((go_at_call 109; exact quiet_after (HOF.out _))))
        refine wpQuiet_nil ?_
        rintro _ ⟨xx, rfl⟩
        obtain ⟨wq, hq⟩ := xx
        try dsimp only
        go_wp2_with fail
        refine bodyPost_ret (v := .tuple #[.int .i64 0, .bool false]) (by simp [results, Tryz.results86, go_sem, *]) rfl ⟨rfl, hE.trans' hq⟩
theorem int_top (x : Int) (h1 : -730750818665451459101842416358141509827966271488 ≤ x) (h2 : x < 730750818665451459101842416358141509827966271488) (z : Int) (hz : z = wrap64 (x % 18446744073709551616))
    (h : ∀ i, 4 ≤ i → i < 10 → dg z i = dg x i) : I64 x := by
  have hz' : I64 z := by rw [hz]; unfold wrap64 I64; omega
  have hh := hi_dg z hz'
  have e4 := (h 4 (by decide) (by decide)).symm.trans (hh 4 (by decide) (by decide))
  have e5 := (h 5 (by decide) (by decide)).symm.trans (hh 5 (by decide) (by decide))
  have e6 := (h 6 (by decide) (by decide)).symm.trans (hh 6 (by decide) (by decide))
  have e7 := (h 7 (by decide) (by decide)).symm.trans (hh 7 (by decide) (by decide))
  have e8 := (h 8 (by decide) (by decide)).symm.trans (hh 8 (by decide) (by decide))
  have e9 := (h 9 (by decide) (by decide)).symm.trans (hh 9 (by decide) (by decide))
  rw [dg4] at e4
  rw [dg5] at e5
  rw [dg6] at e6
  rw [dg7] at e7
  rw [dg8] at e8
  rw [dg9] at e9
  have q5 : x / 1208925819614629174706176 = x / 18446744073709551616 / 65536 := by rw [Int.ediv_ediv_of_nonneg (by omega)]; rfl
  have q6 : x / 79228162514264337593543950336 = x / 18446744073709551616 / 65536 / 65536 := by rw [Int.ediv_ediv_of_nonneg (by omega), Int.ediv_ediv_of_nonneg (by omega)]; rfl
  have q7 : x / 5192296858534827628530496329220096 = x / 18446744073709551616 / 65536 / 65536 / 65536 := by rw [Int.ediv_ediv_of_nonneg (by omega), Int.ediv_ediv_of_nonneg (by omega), Int.ediv_ediv_of_nonneg (by omega)]; rfl
  have q8 : x / 340282366920938463463374607431768211456 = x / 18446744073709551616 / 65536 / 65536 / 65536 / 65536 := by rw [Int.ediv_ediv_of_nonneg (by omega), Int.ediv_ediv_of_nonneg (by omega), Int.ediv_ediv_of_nonneg (by omega), Int.ediv_ediv_of_nonneg (by omega)]; rfl
  have q9 : x / 22300745198530623141535718272648361505980416 = x / 18446744073709551616 / 65536 / 65536 / 65536 / 65536 / 65536 := by rw [Int.ediv_ediv_of_nonneg (by omega), Int.ediv_ediv_of_nonneg (by omega), Int.ediv_ediv_of_nonneg (by omega), Int.ediv_ediv_of_nonneg (by omega), Int.ediv_ediv_of_nonneg (by omega)]; rfl
  rw [q5] at e5
  rw [q6] at e6
  rw [q7] at e7
  rw [q8] at e8
  rw [q9] at e9
  have ht : -39614081257132168796771975168 ≤ x / 18446744073709551616 ∧ x / 18446744073709551616 < 39614081257132168796771975168 := by omega
  have hx := Int.emod_add_mul_ediv x 18446744073709551616
  have hm1 := Int.emod_nonneg x (show (18446744073709551616 : Int) ≠ 0 by decide)
  have hm2 := Int.emod_lt_of_pos x (show (0 : Int) < 18446744073709551616 by decide)
  generalize x / 18446744073709551616 = t at *
  generalize x % 18446744073709551616 = m at *
  by_cases hn : z < 0
  · simp only [hn, decide_true, cond_true] at e4 e5 e6 e7 e8 e9
    have : t = -1 := by omega
    unfold wrap64 at hz
    unfold I64
    omega
  · simp only [hn, decide_false, cond_false] at e4 e5 e6 e7 e8 e9
    have : t = 0 := by omega
    unfold wrap64 at hz
    unfold I64
    omega
theorem wrap_lo (x : Int) {j : Nat} (h : j < 4) : dg (wrap64 (x % 18446744073709551616)) j = dg x j := by
  have e : wrap64 (x % 18446744073709551616) + (65536 ^ 4 : Int) * ((x + 9223372036854775808) / 18446744073709551616) = x := by
    rw [show (65536 ^ 4 : Int) = 18446744073709551616 from rfl]; unfold wrap64; omega
  have := dg_add (wrap64 (x % 18446744073709551616)) ((x + 9223372036854775808) / 18446744073709551616) h
  rw [e] at this
  exact this.symm
/-- A long number as one of sixty-four bits, if it fits. -/
theorem LInt_c (x : Int) (h1 : -730750818665451459101842416358141509827966271488 ≤ x) (h2 : x < 730750818665451459101842416358141509827966271488) (w : World) :
    Calls Tryz.prog 86 #[longV x] w fun e w' => e = .returned (.tuple #[.int .i64 (fitN x), .bool (fitB x)]) ∧ Ext w w' := by
  have hz : I64 (wrap64 (x % 18446744073709551616)) := by unfold wrap64 I64; omega
  have heq : I64 x → wrap64 (x % 18446744073709551616) = x := fun h => by unfold I64 at h; unfold wrap64; omega
  have hb : ∀ ok : Bool, fitB x = ok → ((∀ j, j < 10 → dg (wrap64 (x % 18446744073709551616)) j = dg x j) ∧ ok = true) ∨ ((∀ j, j < 4 → dg (wrap64 (x % 18446744073709551616)) j = dg x j) ∧ ok = false ∧
      ((dg (wrap64 (x % 18446744073709551616)) 4 == dg x 4 && (dg (wrap64 (x % 18446744073709551616)) 5 == dg x 5 && (dg (wrap64 (x % 18446744073709551616)) 6 == dg x 6 && (dg (wrap64 (x % 18446744073709551616)) 7 == dg x 7 && (dg (wrap64 (x % 18446744073709551616)) 8 == dg x 8 && dg (wrap64 (x % 18446744073709551616)) 9 == dg x 9))))) = false)) := by
    intro ok hok
    cases ok with
    | true => left; exact ⟨fun j _ => by rw [heq (fitB_I hok)], rfl⟩
    | false =>
      right
      refine ⟨fun j hj => wrap_lo x hj, rfl, ?_⟩
      cases hall : (dg (wrap64 (x % 18446744073709551616)) 4 == dg x 4 && (dg (wrap64 (x % 18446744073709551616)) 5 == dg x 5 && (dg (wrap64 (x % 18446744073709551616)) 6 == dg x 6 && (dg (wrap64 (x % 18446744073709551616)) 7 == dg x 7 && (dg (wrap64 (x % 18446744073709551616)) 8 == dg x 8 && dg (wrap64 (x % 18446744073709551616)) 9 == dg x 9))))) with
      | false => rfl
      | true =>
        exfalso
        simp only [Bool.and_eq_true, beq_iff_eq] at hall
        obtain ⟨a4, a5, a6, a7, a8, a9⟩ := hall
        have hI := int_top x h1 h2 _ rfl (fun i h3 h4 => by
          have hc : i = 4 ∨ i = 5 ∨ i = 6 ∨ i = 7 ∨ i = 8 ∨ i = 9 := by omega
          rcases hc with rfl | rfl | rfl | rfl | rfl | rfl
          · exact a4
          · exact a5
          · exact a6
          · exact a7
          · exact a8
          · exact a9)
        rw [fitB_yes hI] at hok
        cases hok
  have := Int_core (dg x) (dg (wrap64 (x % 18446744073709551616))) (dg_bd x) (LL x) (fitB x) (Int.emod_one x) (or0 x) (or1 x) (or2 x) (or3 x) _ rfl (fun w' => OfInt_c _ hz w') (hb _ rfl) w
  refine this.mono ?_
  rintro e w' ⟨rfl, hE⟩
  refine ⟨?_, hE⟩
  unfold fitN
  cases hf : fitB x with
  | false => rfl
  | true =>
    show Ending.returned (.tuple #[.int .i64 (wrap64 (LL x 4)), .bool true]) = _
    have : wrap64 (LL x 4) = x := heq (fitB_I hf)
    rw [this]; rfl
set_option maxRecDepth 20000 in
set_option maxHeartbeats 2000000 in
theorem LAdd_c (x y : Int) (hx : I64 x) (hy : I64 y) (w : World) :
    Calls Tryz.prog 160 #[.int .i64 x, .int .i64 y] w fun e w' => e = .returned (.tuple #[.int .i64 (fitN (x + y)), .bool (fitB (x + y))]) ∧ Ext w w' := by
  have hb : -730750818665451459101842416358141509827966271488 ≤ x + y ∧ x + y < 730750818665451459101842416358141509827966271488 := by unfold I64 at hx hy; omega
  have HB := Lib.hid hb
  have HX := Lib.hid hx
  have HY := Lib.hid hy
  have hP : ∀ w' : World, Calls Tryz.prog 108 #[longV x, longV y] w' fun e w'' => e = .returned (longV (x + y)) ∧ Ext w' w'' := LPlus_c x y
  have hI : ∀ w' : World, Calls Tryz.prog 86 #[longV (x + y)] w' fun e w'' => e = .returned (.tuple #[.int .i64 (fitN (x + y)), .bool (fitB (x + y))]) ∧ Ext w' w'' := LInt_c _ hb.1 hb.2
  have HP := Lib.hid hP
  have HI := Lib.hid hI
  generalize fitN (x + y) = fn at *
  generalize fitB (x + y) = fb at *
  generalize x + y = s at *
  clear hb hx hy hP hI
  go_enter Tryz.func160, Tryz.ntmps160
  go_wp2_with fail
  refine Calls.mono (OfInt_c x HX.out _) ?_
  rintro e w1 ⟨rfl, h1⟩
  generalize longV x = vx at *
  go_wp2_with fail
  refine Calls.mono (OfInt_c y HY.out _) ?_
  rintro e w2 ⟨rfl, h2⟩
  generalize longV y = vy at *
  go_wp2_with fail
  refine Calls.mono (HP.out _) ?_
  rintro e w3 ⟨rfl, h3⟩
  generalize longV s = vs at *
  go_wp2_with fail
  refine Calls.mono (HI.out _) ?_
  rintro e w4 ⟨rfl, h4⟩
  go_wp2_with fail
  go_ret2
  exact ⟨rfl, ((h1.trans' h2).trans' h3).trans' h4⟩
end Go.Proofs.YtdenbmmbeeamcaaGreat
