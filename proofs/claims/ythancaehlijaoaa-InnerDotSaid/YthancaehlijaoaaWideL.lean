/- gaugerref02.Wide. -/
import Derived.Test.YthancaehlijaoaaEqLong
import Derived.Test.YthancaehlijaoaaDot
namespace Go.Proofs.Ythancaehlijaoaa
set_option linter.unusedVariables false
open Go.RowKit

set_option maxRecDepth 20000 in
set_option maxHeartbeats 8000000 in
theorem Wide_core (d D : Nat → Int) (hd : ∀ i, 0 ≤ d i ∧ d i ≤ 65535) (L H : Nat → Int) (Hw : Int) (ok : Bool)
    (l0 : L 0 = 0) (h0 : H 0 = 0)
    (hl0 : bits BinOp.or IntKind.u64 (L 0) (d 0) = L 1) (hl1 : bits BinOp.or IntKind.u64 (L 1) (d 1 * 65536) = L 2) (hl2 : bits BinOp.or IntKind.u64 (L 2) (d 2 * 4294967296) = L 3) (hl3 : bits BinOp.or IntKind.u64 (L 3) (d 3 * 281474976710656) = L 4)
    (hh0 : bits BinOp.or IntKind.u64 (H 0) (d 4) = H 1) (hh1 : bits BinOp.or IntKind.u64 (H 1) (d 5 * 65536) = H 2) (hh2 : bits BinOp.or IntKind.u64 (H 2) (d 6 * 4294967296) = H 3) (hh3 : bits BinOp.or IntKind.u64 (H 3) (d 7 * 281474976710656) = H 4)
    (hw : wrap64 (H 4) = Hw)
    (hOf : ∀ w' : World, Calls Try.prog 44 #[.agg #[.int .i64 Hw, .int .u64 (L 4)]] w' fun e w'' => e = .returned (longA D) ∧ Ext w' w'')
    (hcmp : ((∀ j, j < 10 → D j = d j) ∧ ok = true) ∨ ((∀ j, j < 8 → D j = d j) ∧ ok = false ∧ (((D 8 == d 8) = false) ∨ (D 8 = d 8 ∧ (D 9 == d 9) = false)))) (w : World) :
    Calls Try.prog 71 #[longA d] w fun e w' => e = .returned (bif ok then .tuple #[.agg #[.int .i64 Hw, .int .u64 (L 4)], .bool true] else .tuple #[.agg #[.int .i64 0, .int .u64 0], .bool false]) ∧ Ext w w' := by
  have HD := Lib.hid hd
  have HL0 := Lib.hid hl0
  have HL1 := Lib.hid hl1
  have HL2 := Lib.hid hl2
  have HL3 := Lib.hid hl3
  have HH0 := Lib.hid hh0
  have HH1 := Lib.hid hh1
  have HH2 := Lib.hid hh2
  have HH3 := Lib.hid hh3
  have HW := Lib.hid hw
  have L0 := Lib.hid l0
  have H0 := Lib.hid h0
  have HOF := Lib.hid hOf
  have HCMP := Lib.hid hcmp
  clear hd hl0 hl1 hl2 hl3 hh0 hh1 hh2 hh3 hw l0 h0 hOf hcmp
  unfold longA
  go_enter Try.func71, Try.ntmps71
  go_wp2_with fail
  go_loopw [5, 6] (fun u5 u6 wr => ∃ i : Nat, i ≤ 4 ∧ u5 = .int .u64 (H i) ∧ u6 = .int .i64 i ∧ Ext w wr ∧ LongAt wr w.heap.size d ∧ wr.heap[w.heap.size + 1]? = some (.cells #[.int .i64 0, .int .u64 0] 56 (0, 0)) ∧ wr.heap[w.heap.size + 1 + 1]? = some (.cells #[.int .i64 0, .int .u64 (L i)] 56 (0, 0))) (fun _ u6 _ => 4 - (intOf u6).toNat)
  case atStart =>
    refine ⟨0, Nat.zero_le _, by rw [H0.out], rfl, ((Ext.alloc' _ _).allocR _).allocR _, ?_, ?_, ?_⟩
    · unfold LongAt
      rw [fill10, heap_old _ _ (by simp only [size_alloc]; omega), heap_old _ _ (by simp only [size_alloc]; omega)]
      exact heap_at _ _ rfl
    · rw [heap_old _ _ (by simp only [size_alloc]; omega)]
      exact heap_at _ _ (by simp only [size_alloc])
    · rw [L0.out]
      exact heap_at _ _ (by simp only [size_alloc])
  case round =>
    obtain ⟨i, hi, rfl, rfl, hE, hA, h1, h2⟩ := hrel
    have l0 := lt_of hA
    have l2 := lt_of h2
    have hc : i = 0 ∨ i = 1 ∨ i = 2 ∨ i = 3 ∨ i = 4 := by omega
    rcases hc with rfl | rfl | rfl | rfl | rfl
    · have x0 := hA.cell (k := 0) (by decide)
      have x1 := hA.cell (k := 4) (by decide)
      have y1 := (cell_of h2 1).trans rfl
      have f1 := frozen_of h2 1
      obtain ⟨d1l, d1h⟩ := HD.out 0
      obtain ⟨d5l, d5h⟩ := HD.out 4
      have hl := HL0.out
      have hh := HH0.out
      generalize d 0 = d1 at *
      generalize d 4 = d5 at *
      generalize L 0 = L1 at *
      generalize H 0 = H1 at *
      have HLf := Lib.hid hl
      have HHf := Lib.hid hh
      have HAt := Lib.hid hA
      have H1t := Lib.hid h1
      have H2t := Lib.hid h2
      clear hl hh hA h1 h2
      go_wp2_with fail
      have hC0 := af_drew wr
      refine pi_start (fun w' => ∃ x : After wr, w' = x.w) [12] (by kernel_rfl) ?_
      refine pi_t 0 rfl (by kernel_rfl) (by kernel_rfl) (fun _ _ _ _ h => h) (fun K hK => ?_)
      go_big_quiet_op
      refine hK _ ?_
      clear hK K
      refine pi_t 2 rfl (by kernel_rfl) (by kernel_rfl) (fun _ _ _ _ h => h) (fun K hK => ?_)
      go_big_quiet_op
      refine hK _ ?_
      clear hK K
      refine pi_t 3 rfl (by kernel_rfl) (by kernel_rfl) (fun _ _ _ _ h => h) (fun K hK => ?_)
      go_big_quiet_op
      refine hK _ ?_
      clear hK K
      refine pi_t 6 rfl (by kernel_rfl) (by kernel_rfl) (fun _ _ _ _ h => h) (fun K hK => ?_)
      go_big_quiet_op
      refine hK _ ?_
      clear hK K
      refine pi_t 7 rfl (by kernel_rfl) (by kernel_rfl) (fun _ _ _ _ h => h) (fun K hK => ?_)
      go_big_quiet_op
      refine hK _ ?_
      clear hK K
      refine pi_t 8 rfl (by kernel_rfl) (by kernel_rfl) (fun _ _ _ _ h => h) (fun K hK => ?_)
      go_big_quiet_op
      refine hK _ ?_
      clear hK K
      refine pi_c 1 (by assumption) rfl (by kernel_rfl) (by kernel_rfl) (fun _ _ _ _ h => h) (fun K hK => ?_)
      go_big_quiet_op
      refine hK _ ?_
      clear hK K
      refine pi_c 4 (by assumption) rfl (by kernel_rfl) (by kernel_rfl) (fun _ _ _ _ h => h) (fun K hK => ?_)
      go_big_quiet_op
      refine hK _ ?_
      clear hK K
      refine pi_t 5 rfl (by kernel_rfl) (by kernel_rfl) (fun _ _ _ _ h => h) (fun K hK => ?_)
      go_big_quiet_op
      refine hK _ ?_
      clear hK K
      refine pi_t 9 rfl (by kernel_rfl) (by kernel_rfl) (fun _ _ _ _ h => h) (fun K hK => ?_)
      go_big_quiet_op
      refine hK _ ?_
      clear hK K
      refine pi_t 10 rfl (by kernel_rfl) (by kernel_rfl) (fun _ _ _ _ h => h) (fun K hK => ?_)
      go_big_quiet_op
      refine hK _ ?_
      clear hK K
      refine pi_t 11 rfl (by kernel_rfl) (by kernel_rfl) (fun _ _ _ _ h => h) (fun K hK => ?_)
      go_big_quiet_op
      refine hK _ ?_
      clear hK K
      refine pi_l 12 rfl (by kernel_rfl) (fun K hK => ?_)
      go_wp2
      refine hK _ _ (by simp) ?_
      clear hK K
      refine pi_end (by kernel_rfl) ?_
      go_wp2_with fail
      go_roundw
      case rel =>
        refine ⟨1, by decide, congrArg _ HHf.out, by go_num, (hE.setR (p := ⟨w.heap.size + 1 + 1, 1, none⟩) (by show _ ≤ w.heap.size + 1 + 1; omega) _).drewR, HAt.out.keep (setCell_other _ _ (by omega)), (setCell_other _ _ (by omega)).trans H1t.out, ?_⟩
        rw [← HLf.out]
        exact setCell_same H2t.out 1 _
      case measure => simp [intOf]
    · have x0 := hA.cell (k := 1) (by decide)
      have x1 := hA.cell (k := 5) (by decide)
      have y1 := (cell_of h2 1).trans rfl
      have f1 := frozen_of h2 1
      obtain ⟨d1l, d1h⟩ := HD.out 1
      obtain ⟨d5l, d5h⟩ := HD.out 5
      have hl := HL1.out
      have hh := HH1.out
      generalize d 1 = d1 at *
      generalize d 5 = d5 at *
      generalize L 1 = L1 at *
      generalize H 1 = H1 at *
      have HLf := Lib.hid hl
      have HHf := Lib.hid hh
      have HAt := Lib.hid hA
      have H1t := Lib.hid h1
      have H2t := Lib.hid h2
      clear hl hh hA h1 h2
      go_wp2_with fail
      have hC0 := af_drew wr
      refine pi_start (fun w' => ∃ x : After wr, w' = x.w) [12] (by kernel_rfl) ?_
      refine pi_t 0 rfl (by kernel_rfl) (by kernel_rfl) (fun _ _ _ _ h => h) (fun K hK => ?_)
      go_big_quiet_op
      refine hK _ ?_
      clear hK K
      refine pi_t 2 rfl (by kernel_rfl) (by kernel_rfl) (fun _ _ _ _ h => h) (fun K hK => ?_)
      go_big_quiet_op
      refine hK _ ?_
      clear hK K
      refine pi_t 3 rfl (by kernel_rfl) (by kernel_rfl) (fun _ _ _ _ h => h) (fun K hK => ?_)
      go_big_quiet_op
      refine hK _ ?_
      clear hK K
      refine pi_t 6 rfl (by kernel_rfl) (by kernel_rfl) (fun _ _ _ _ h => h) (fun K hK => ?_)
      go_big_quiet_op
      refine hK _ ?_
      clear hK K
      refine pi_t 7 rfl (by kernel_rfl) (by kernel_rfl) (fun _ _ _ _ h => h) (fun K hK => ?_)
      go_big_quiet_op
      refine hK _ ?_
      clear hK K
      refine pi_t 8 rfl (by kernel_rfl) (by kernel_rfl) (fun _ _ _ _ h => h) (fun K hK => ?_)
      go_big_quiet_op
      refine hK _ ?_
      clear hK K
      refine pi_c 1 (by assumption) rfl (by kernel_rfl) (by kernel_rfl) (fun _ _ _ _ h => h) (fun K hK => ?_)
      go_big_quiet_op
      refine hK _ ?_
      clear hK K
      refine pi_c 4 (by assumption) rfl (by kernel_rfl) (by kernel_rfl) (fun _ _ _ _ h => h) (fun K hK => ?_)
      go_big_quiet_op
      refine hK _ ?_
      clear hK K
      refine pi_t 5 rfl (by kernel_rfl) (by kernel_rfl) (fun _ _ _ _ h => h) (fun K hK => ?_)
      go_big_quiet_op
      refine hK _ ?_
      clear hK K
      refine pi_t 9 rfl (by kernel_rfl) (by kernel_rfl) (fun _ _ _ _ h => h) (fun K hK => ?_)
      go_big_quiet_op
      refine hK _ ?_
      clear hK K
      refine pi_t 10 rfl (by kernel_rfl) (by kernel_rfl) (fun _ _ _ _ h => h) (fun K hK => ?_)
      go_big_quiet_op
      refine hK _ ?_
      clear hK K
      refine pi_t 11 rfl (by kernel_rfl) (by kernel_rfl) (fun _ _ _ _ h => h) (fun K hK => ?_)
      go_big_quiet_op
      refine hK _ ?_
      clear hK K
      refine pi_l 12 rfl (by kernel_rfl) (fun K hK => ?_)
      go_wp2
      refine hK _ _ (by simp) ?_
      clear hK K
      refine pi_end (by kernel_rfl) ?_
      go_wp2_with fail
      go_roundw
      case rel =>
        refine ⟨2, by decide, congrArg _ HHf.out, by go_num, (hE.setR (p := ⟨w.heap.size + 1 + 1, 1, none⟩) (by show _ ≤ w.heap.size + 1 + 1; omega) _).drewR, HAt.out.keep (setCell_other _ _ (by omega)), (setCell_other _ _ (by omega)).trans H1t.out, ?_⟩
        rw [← HLf.out]
        exact setCell_same H2t.out 1 _
      case measure => simp [intOf]
    · have x0 := hA.cell (k := 2) (by decide)
      have x1 := hA.cell (k := 6) (by decide)
      have y1 := (cell_of h2 1).trans rfl
      have f1 := frozen_of h2 1
      obtain ⟨d1l, d1h⟩ := HD.out 2
      obtain ⟨d5l, d5h⟩ := HD.out 6
      have hl := HL2.out
      have hh := HH2.out
      generalize d 2 = d1 at *
      generalize d 6 = d5 at *
      generalize L 2 = L1 at *
      generalize H 2 = H1 at *
      have HLf := Lib.hid hl
      have HHf := Lib.hid hh
      have HAt := Lib.hid hA
      have H1t := Lib.hid h1
      have H2t := Lib.hid h2
      clear hl hh hA h1 h2
      go_wp2_with fail
      have hC0 := af_drew wr
      refine pi_start (fun w' => ∃ x : After wr, w' = x.w) [12] (by kernel_rfl) ?_
      refine pi_t 0 rfl (by kernel_rfl) (by kernel_rfl) (fun _ _ _ _ h => h) (fun K hK => ?_)
      go_big_quiet_op
      refine hK _ ?_
      clear hK K
      refine pi_t 2 rfl (by kernel_rfl) (by kernel_rfl) (fun _ _ _ _ h => h) (fun K hK => ?_)
      go_big_quiet_op
      refine hK _ ?_
      clear hK K
      refine pi_t 3 rfl (by kernel_rfl) (by kernel_rfl) (fun _ _ _ _ h => h) (fun K hK => ?_)
      go_big_quiet_op
      refine hK _ ?_
      clear hK K
      refine pi_t 6 rfl (by kernel_rfl) (by kernel_rfl) (fun _ _ _ _ h => h) (fun K hK => ?_)
      go_big_quiet_op
      refine hK _ ?_
      clear hK K
      refine pi_t 7 rfl (by kernel_rfl) (by kernel_rfl) (fun _ _ _ _ h => h) (fun K hK => ?_)
      go_big_quiet_op
      refine hK _ ?_
      clear hK K
      refine pi_t 8 rfl (by kernel_rfl) (by kernel_rfl) (fun _ _ _ _ h => h) (fun K hK => ?_)
      go_big_quiet_op
      refine hK _ ?_
      clear hK K
      refine pi_c 1 (by assumption) rfl (by kernel_rfl) (by kernel_rfl) (fun _ _ _ _ h => h) (fun K hK => ?_)
      go_big_quiet_op
      refine hK _ ?_
      clear hK K
      refine pi_c 4 (by assumption) rfl (by kernel_rfl) (by kernel_rfl) (fun _ _ _ _ h => h) (fun K hK => ?_)
      go_big_quiet_op
      refine hK _ ?_
      clear hK K
      refine pi_t 5 rfl (by kernel_rfl) (by kernel_rfl) (fun _ _ _ _ h => h) (fun K hK => ?_)
      go_big_quiet_op
      refine hK _ ?_
      clear hK K
      refine pi_t 9 rfl (by kernel_rfl) (by kernel_rfl) (fun _ _ _ _ h => h) (fun K hK => ?_)
      go_big_quiet_op
      refine hK _ ?_
      clear hK K
      refine pi_t 10 rfl (by kernel_rfl) (by kernel_rfl) (fun _ _ _ _ h => h) (fun K hK => ?_)
      go_big_quiet_op
      refine hK _ ?_
      clear hK K
      refine pi_t 11 rfl (by kernel_rfl) (by kernel_rfl) (fun _ _ _ _ h => h) (fun K hK => ?_)
      go_big_quiet_op
      refine hK _ ?_
      clear hK K
      refine pi_l 12 rfl (by kernel_rfl) (fun K hK => ?_)
      go_wp2
      refine hK _ _ (by simp) ?_
      clear hK K
      refine pi_end (by kernel_rfl) ?_
      go_wp2_with fail
      go_roundw
      case rel =>
        refine ⟨3, by decide, congrArg _ HHf.out, by go_num, (hE.setR (p := ⟨w.heap.size + 1 + 1, 1, none⟩) (by show _ ≤ w.heap.size + 1 + 1; omega) _).drewR, HAt.out.keep (setCell_other _ _ (by omega)), (setCell_other _ _ (by omega)).trans H1t.out, ?_⟩
        rw [← HLf.out]
        exact setCell_same H2t.out 1 _
      case measure => simp [intOf]
    · have x0 := hA.cell (k := 3) (by decide)
      have x1 := hA.cell (k := 7) (by decide)
      have y1 := (cell_of h2 1).trans rfl
      have f1 := frozen_of h2 1
      obtain ⟨d1l, d1h⟩ := HD.out 3
      obtain ⟨d5l, d5h⟩ := HD.out 7
      have hl := HL3.out
      have hh := HH3.out
      generalize d 3 = d1 at *
      generalize d 7 = d5 at *
      generalize L 3 = L1 at *
      generalize H 3 = H1 at *
      have HLf := Lib.hid hl
      have HHf := Lib.hid hh
      have HAt := Lib.hid hA
      have H1t := Lib.hid h1
      have H2t := Lib.hid h2
      clear hl hh hA h1 h2
      go_wp2_with fail
      have hC0 := af_drew wr
      refine pi_start (fun w' => ∃ x : After wr, w' = x.w) [12] (by kernel_rfl) ?_
      refine pi_t 0 rfl (by kernel_rfl) (by kernel_rfl) (fun _ _ _ _ h => h) (fun K hK => ?_)
      go_big_quiet_op
      refine hK _ ?_
      clear hK K
      refine pi_t 2 rfl (by kernel_rfl) (by kernel_rfl) (fun _ _ _ _ h => h) (fun K hK => ?_)
      go_big_quiet_op
      refine hK _ ?_
      clear hK K
      refine pi_t 3 rfl (by kernel_rfl) (by kernel_rfl) (fun _ _ _ _ h => h) (fun K hK => ?_)
      go_big_quiet_op
      refine hK _ ?_
      clear hK K
      refine pi_t 6 rfl (by kernel_rfl) (by kernel_rfl) (fun _ _ _ _ h => h) (fun K hK => ?_)
      go_big_quiet_op
      refine hK _ ?_
      clear hK K
      refine pi_t 7 rfl (by kernel_rfl) (by kernel_rfl) (fun _ _ _ _ h => h) (fun K hK => ?_)
      go_big_quiet_op
      refine hK _ ?_
      clear hK K
      refine pi_t 8 rfl (by kernel_rfl) (by kernel_rfl) (fun _ _ _ _ h => h) (fun K hK => ?_)
      go_big_quiet_op
      refine hK _ ?_
      clear hK K
      refine pi_c 1 (by assumption) rfl (by kernel_rfl) (by kernel_rfl) (fun _ _ _ _ h => h) (fun K hK => ?_)
      go_big_quiet_op
      refine hK _ ?_
      clear hK K
      refine pi_c 4 (by assumption) rfl (by kernel_rfl) (by kernel_rfl) (fun _ _ _ _ h => h) (fun K hK => ?_)
      go_big_quiet_op
      refine hK _ ?_
      clear hK K
      refine pi_t 5 rfl (by kernel_rfl) (by kernel_rfl) (fun _ _ _ _ h => h) (fun K hK => ?_)
      go_big_quiet_op
      refine hK _ ?_
      clear hK K
      refine pi_t 9 rfl (by kernel_rfl) (by kernel_rfl) (fun _ _ _ _ h => h) (fun K hK => ?_)
      go_big_quiet_op
      refine hK _ ?_
      clear hK K
      refine pi_t 10 rfl (by kernel_rfl) (by kernel_rfl) (fun _ _ _ _ h => h) (fun K hK => ?_)
      go_big_quiet_op
      refine hK _ ?_
      clear hK K
      refine pi_t 11 rfl (by kernel_rfl) (by kernel_rfl) (fun _ _ _ _ h => h) (fun K hK => ?_)
      go_big_quiet_op
      refine hK _ ?_
      clear hK K
      refine pi_l 12 rfl (by kernel_rfl) (fun K hK => ?_)
      go_wp2
      refine hK _ _ (by simp) ?_
      clear hK K
      refine pi_end (by kernel_rfl) ?_
      go_wp2_with fail
      go_roundw
      case rel =>
        refine ⟨4, by decide, congrArg _ HHf.out, by go_num, (hE.setR (p := ⟨w.heap.size + 1 + 1, 1, none⟩) (by show _ ≤ w.heap.size + 1 + 1; omega) _).drewR, HAt.out.keep (setCell_other _ _ (by omega)), (setCell_other _ _ (by omega)).trans H1t.out, ?_⟩
        rw [← HLf.out]
        exact setCell_same H2t.out 1 _
      case measure => simp [intOf]
    · have y0 := (cell_of h2 0).trans rfl
      have y1 := (cell_of h2 1).trans rfl
      have f0 := frozen_of h2 0
      have f1 := frozen_of h2 1
      have hwf := HW.out
      have hz2 : (wr.setCell ⟨w.heap.size + 1 + 1, 0, none⟩ (.int .i64 Hw)).heap[w.heap.size + 1 + 1]? = some (.cells #[.int .i64 Hw, .int .u64 (L 4)] 56 (0, 0)) := setCell_same h2 0 _
      have hz1 : (wr.setCell ⟨w.heap.size + 1 + 1, 0, none⟩ (.int .i64 Hw)).heap[w.heap.size + 1]? = some (.cells #[.int .i64 0, .int .u64 0] 56 (0, 0)) := (setCell_other _ _ (by omega)).trans h1
      have hAz : LongAt (wr.setCell ⟨w.heap.size + 1 + 1, 0, none⟩ (.int .i64 Hw)) w.heap.size d := hA.keep (setCell_other _ _ (by omega))
      have hEz : Ext w (wr.setCell ⟨w.heap.size + 1 + 1, 0, none⟩ (.int .i64 Hw)) := hE.setR (p := ⟨w.heap.size + 1 + 1, 0, none⟩) (by show _ ≤ w.heap.size + 1 + 1; omega) _
      have HA := Lib.hid hA
      have H1t := Lib.hid h1
      have H2t := Lib.hid h2
      clear hA h1 h2
      go_upto_region 9 with (fail)
      generalize wr.setCell ⟨w.heap.size + 1 + 1, 0, none⟩ (.int .i64 Hw) = wz at *
      clear y0 y1 f0 f1 l0 l2 HA H1t H2t hE hwf
      have l0 := lt_of hAz
      have l2 := lt_of hz2
      have v0 := (cell_of hz2 0).trans rfl
      have v1 := (cell_of hz2 1).trans rfl
      have z0 := hAz.cell (k := 0) (by decide)
      have z1 := hAz.cell (k := 1) (by decide)
      have z2 := hAz.cell (k := 2) (by decide)
      have z3 := hAz.cell (k := 3) (by decide)
      have z4 := hAz.cell (k := 4) (by decide)
      have z5 := hAz.cell (k := 5) (by decide)
      have z6 := hAz.cell (k := 6) (by decide)
      have z7 := hAz.cell (k := 7) (by decide)
      have z8 := hAz.cell (k := 8) (by decide)
      have z9 := hAz.cell (k := 9) (by decide)
      have HZ1 := Lib.hid hz1
      have HZ2 := Lib.hid hz2
      clear hAz hz1 hz2
      have hof : ∀ w' : World, Calls Try.prog 44 #[.agg #[.int .i64 Hw, .int .u64 (L 4)]] w' fun e w'' => e = .returned (.agg #[.int .i64 (D 0), .int .i64 (D 1), .int .i64 (D 2), .int .i64 (D 3), .int .i64 (D 4), .int .i64 (D 5), .int .i64 (D 6), .int .i64 (D 7), .int .i64 (D 8), .int .i64 (D 9)]) ∧ Ext w' w'' := HOF.out
      have HOF' := Lib.hid hof
      clear hof
      rcases HCMP.out with ⟨hall, rfl⟩ | ⟨hall, rfl, h8 | ⟨h8, h9⟩⟩
      ·
          have g0 := hall 0 (by decide)
          have g1 := hall 1 (by decide)
          have g2 := hall 2 (by decide)
          have g3 := hall 3 (by decide)
          have g4 := hall 4 (by decide)
          have g5 := hall 5 (by decide)
          have g6 := hall 6 (by decide)
          have g7 := hall 7 (by decide)
          have g8 := hall 8 (by decide)
          have g9 := hall 9 (by decide)
          clear hall
          refine wp_region_after (by kernel_rfl) (by kernel_rfl) ?_
          repeat (go_big_quiet_step ((go_at_call 44; exact quiet_after (HOF'.out _))))
          refine wpQuiet_nil ?_
          rintro _ ⟨xx, rfl⟩
          obtain ⟨wq, hq⟩ := xx
          try dsimp only
          have hq2 := hq.keep HZ2.out
          have hq1 := hq.keep HZ1.out
          have u0 := (cell_of hq2 0).trans rfl
          have u1 := (cell_of hq2 1).trans rfl
          have t0 := (cell_of hq1 0).trans rfl
          have t1 := (cell_of hq1 1).trans rfl
          have f0 := frozen_of hq1 0
          have f1 := frozen_of hq1 1
          have m1 := lt_of hq1
          have m2 := lt_of hq2
          clear hq1 hq2
          go_wp2_with fail
          refine bodyPost_ret (v := .tuple #[.agg #[.int .i64 Hw, .int .u64 (L 4)], .bool true]) (by simp [results, Try.results71, go_sem, *]) rfl ⟨rfl, ?_⟩
          exact ((hEz.trans' hq).setR (p := ⟨w.heap.size + 1, 0, none⟩) (by show _ ≤ w.heap.size + 1; omega) _).setR (p := ⟨w.heap.size + 1, 1, none⟩) (by show _ ≤ w.heap.size + 1; omega) _
      ·
          have g0 := hall 0 (by decide)
          have g1 := hall 1 (by decide)
          have g2 := hall 2 (by decide)
          have g3 := hall 3 (by decide)
          have g4 := hall 4 (by decide)
          have g5 := hall 5 (by decide)
          have g6 := hall 6 (by decide)
          have g7 := hall 7 (by decide)
          clear hall
          refine wp_region_after (by kernel_rfl) (by kernel_rfl) ?_
          repeat (go_big_quiet_step ((go_at_call 44; exact quiet_after (HOF'.out _))))
          refine wpQuiet_nil ?_
          rintro _ ⟨xx, rfl⟩
          obtain ⟨wq, hq⟩ := xx
          try dsimp only
          have hq2 := hq.keep HZ2.out
          have hq1 := hq.keep HZ1.out
          have u0 := (cell_of hq2 0).trans rfl
          have u1 := (cell_of hq2 1).trans rfl
          have t0 := (cell_of hq1 0).trans rfl
          have t1 := (cell_of hq1 1).trans rfl
          have f0 := frozen_of hq1 0
          have f1 := frozen_of hq1 1
          have m1 := lt_of hq1
          have m2 := lt_of hq2
          clear hq1 hq2
          go_wp2_with fail
          refine bodyPost_ret (v := .tuple #[.agg #[.int .i64 0, .int .u64 0], .bool false]) (by simp [results, Try.results71, go_sem, *]) rfl ⟨rfl, ?_⟩
          exact ((hEz.trans' hq).setR (p := ⟨w.heap.size + 1, 0, none⟩) (by show _ ≤ w.heap.size + 1; omega) _).setR (p := ⟨w.heap.size + 1, 1, none⟩) (by show _ ≤ w.heap.size + 1; omega) _
      ·
          have g0 := hall 0 (by decide)
          have g1 := hall 1 (by decide)
          have g2 := hall 2 (by decide)
          have g3 := hall 3 (by decide)
          have g4 := hall 4 (by decide)
          have g5 := hall 5 (by decide)
          have g6 := hall 6 (by decide)
          have g7 := hall 7 (by decide)
          clear hall
          refine wp_region_after (by kernel_rfl) (by kernel_rfl) ?_
          repeat (go_big_quiet_step ((go_at_call 44; exact quiet_after (HOF'.out _))))
          refine wpQuiet_nil ?_
          rintro _ ⟨xx, rfl⟩
          obtain ⟨wq, hq⟩ := xx
          try dsimp only
          have hq2 := hq.keep HZ2.out
          have hq1 := hq.keep HZ1.out
          have u0 := (cell_of hq2 0).trans rfl
          have u1 := (cell_of hq2 1).trans rfl
          have t0 := (cell_of hq1 0).trans rfl
          have t1 := (cell_of hq1 1).trans rfl
          have f0 := frozen_of hq1 0
          have f1 := frozen_of hq1 1
          have m1 := lt_of hq1
          have m2 := lt_of hq2
          clear hq1 hq2
          go_wp2_with fail
          refine bodyPost_ret (v := .tuple #[.agg #[.int .i64 0, .int .u64 0], .bool false]) (by simp [results, Try.results71, go_sem, *]) rfl ⟨rfl, ?_⟩
          exact ((hEz.trans' hq).setR (p := ⟨w.heap.size + 1, 0, none⟩) (by show _ ≤ w.heap.size + 1; omega) _).setR (p := ⟨w.heap.size + 1, 1, none⟩) (by show _ ≤ w.heap.size + 1; omega) _
theorem or_flip (x y : Int) : bits BinOp.or IntKind.u64 x y = bits BinOp.or IntKind.u64 y x := by
  show IntKind.u64.wrap ((BitVec.ofInt 64 x ||| BitVec.ofInt 64 y).toNat : Int) = IntKind.u64.wrap ((BitVec.ofInt 64 y ||| BitVec.ofInt 64 x).toNat : Int)
  rw [BitVec.or_comm]
theorem or_at (y d : Int) (k : Nat) (hk : k ≤ 48) (hd : 0 ≤ d ∧ d ≤ 65535) (hy0 : 0 ≤ y) (hy : y < ((2 ^ k : Nat) : Int)) : bits BinOp.or IntKind.u64 y (d * ((2 ^ k : Nat) : Int)) = y + d * ((2 ^ k : Nat) : Int) := by
  have hp : ((2 ^ k : Nat) : Int) ≤ 281474976710656 := by
    have := Nat.pow_le_pow_right (show 0 < 2 by decide) hk
    have e : (2 : Nat) ^ 48 = 281474976710656 := by decide
    omega
  have hq : d * ((2 ^ k : Nat) : Int) ≤ 65535 * ((2 ^ k : Nat) : Int) := Int.mul_le_mul_of_nonneg_right hd.2 (by omega)
  have h0 : 0 ≤ d * ((2 ^ k : Nat) : Int) := Int.mul_nonneg hd.1 (by omega)
  rw [or_flip, or_add _ y k (by omega) h0 (by omega) (Int.dvd_mul_left _ _) hy0 hy, Int.add_comm]
theorem or0 (x : Int) : bits BinOp.or IntKind.u64 (x % 1) (dg x 0) = x % 65536 := by
  have := or_at (x % 1) (dg x 0) 0 (by decide) (dg_bd x 0) (by omega) (by show x % 1 < 1; omega)
  rw [show (((2 ^ 0 : Nat) : Nat) : Int) = 1 from rfl, Int.mul_one] at this
  rw [this, dg0]; omega
theorem or1 (x : Int) : bits BinOp.or IntKind.u64 (x % 65536) (dg x 1 * 65536) = x % 4294967296 := by
  have := or_at (x % 65536) (dg x 1) 16 (by decide) (dg_bd x 1) (by omega) (by show x % 65536 < 65536; omega)
  rw [show (((2 ^ 16 : Nat) : Nat) : Int) = 65536 from rfl] at this
  rw [this, dg1]; omega
theorem or2 (x : Int) : bits BinOp.or IntKind.u64 (x % 4294967296) (dg x 2 * 4294967296) = x % 281474976710656 := by
  have := or_at (x % 4294967296) (dg x 2) 32 (by decide) (dg_bd x 2) (by omega) (by show x % 4294967296 < 4294967296; omega)
  rw [show (((2 ^ 32 : Nat) : Nat) : Int) = 4294967296 from rfl] at this
  rw [this, dg2]; omega
theorem or3 (x : Int) : bits BinOp.or IntKind.u64 (x % 281474976710656) (dg x 3 * 281474976710656) = x % 18446744073709551616 := by
  have := or_at (x % 281474976710656) (dg x 3) 48 (by decide) (dg_bd x 3) (by omega) (by show x % 281474976710656 < 281474976710656; omega)
  rw [show (((2 ^ 48 : Nat) : Nat) : Int) = 281474976710656 from rfl] at this
  rw [this, dg3]; omega
def LL (x : Int) : Nat → Int
  | 0 => x % 1
  | 1 => x % 65536
  | 2 => x % 4294967296
  | 3 => x % 281474976710656
  | _ => x % 18446744073709551616
theorem dg_hi (x : Int) : dg x 4 = dg (x / 18446744073709551616) 0 ∧ dg x 5 = dg (x / 18446744073709551616) 1 ∧ dg x 6 = dg (x / 18446744073709551616) 2 ∧ dg x 7 = dg (x / 18446744073709551616) 3 := by
  rw [dg4, dg5, dg6, dg7, dg0, dg1, dg2, dg3]
  refine ⟨?_, ?_, ?_, ?_⟩ <;> omega
def zOf (x : Int) : Int := (x + 170141183460469231731687303715884105728) % 340282366920938463463374607431768211456 - 170141183460469231731687303715884105728
theorem zOf_w (x : Int) : W128 (zOf x) := by unfold zOf W128; omega
theorem zOf_lo (x : Int) : lo (zOf x) = x % 18446744073709551616 := by unfold zOf lo; omega
theorem zOf_hi (x : Int) : hi (zOf x) = wrap64 (x / 18446744073709551616 % 18446744073709551616) := by unfold zOf hi wrap64; omega
theorem zOf_eq (x : Int) (h : W128 x) : zOf x = x := by unfold W128 at h; unfold zOf; omega
theorem zOf_dg (x : Int) {j : Nat} (h : j < 8) : dg (zOf x) j = dg x j := by
  have e : zOf x + (65536 ^ 8 : Int) * ((x + 170141183460469231731687303715884105728) / 340282366920938463463374607431768211456) = x := by
    rw [show (65536 ^ 8 : Int) = 340282366920938463463374607431768211456 from rfl]; unfold zOf; omega
  have := dg_add (zOf x) ((x + 170141183460469231731687303715884105728) / 340282366920938463463374607431768211456) h
  rw [e] at this
  exact this.symm
theorem zOf_top (x : Int) (h1 : -730750818665451459101842416358141509827966271488 ≤ x) (h2 : x < 730750818665451459101842416358141509827966271488) (h8 : dg (zOf x) 8 = dg x 8) (h9 : dg (zOf x) 9 = dg x 9) : W128 x := by
  rw [dg8, dg8] at h8
  rw [dg9, dg9] at h9
  have hz := zOf_w x
  unfold W128 at hz ⊢
  have e : zOf x + 340282366920938463463374607431768211456 * ((x + 170141183460469231731687303715884105728) / 340282366920938463463374607431768211456) = x := by unfold zOf; omega
  generalize zOf x = z at *
  generalize (x + 170141183460469231731687303715884105728) / 340282366920938463463374607431768211456 = q at *
  have hx8 : x / 340282366920938463463374607431768211456 = z / 340282366920938463463374607431768211456 + q := by omega
  have hx9 : x / 22300745198530623141535718272648361505980416 = (z / 340282366920938463463374607431768211456 + q) / 65536 := by
    rw [← hx8, Int.ediv_ediv_of_nonneg (by omega)]; rfl
  have hz9 : z / 22300745198530623141535718272648361505980416 = z / 340282366920938463463374607431768211456 / 65536 := by
    rw [Int.ediv_ediv_of_nonneg (by omega)]; rfl
  rw [hx8] at h8
  rw [hx9, hz9] at h9
  have ht : z / 340282366920938463463374607431768211456 = -1 ∨ z / 340282366920938463463374607431768211456 = 0 := by omega
  have hq : -4294967296 ≤ q ∧ q ≤ 4294967296 := by omega
  generalize z / 340282366920938463463374607431768211456 = t at *
  have : q = 0 := by omega
  omega
/-- A long number as a wide one, if it fits. -/
theorem LWide_c (x : Int) (h1 : -730750818665451459101842416358141509827966271488 ≤ x) (h2 : x < 730750818665451459101842416358141509827966271488) (w : World) :
    Calls Try.prog 71 #[longV x] w fun e w' => e = .returned (dotV (bif fit128 x then some x else none)) ∧ Ext w w' := by
  have hd := dg_hi x
  have hb : ∀ ok : Bool, fit128 x = ok → ((∀ j, j < 10 → dg (zOf x) j = dg x j) ∧ ok = true) ∨ ((∀ j, j < 8 → dg (zOf x) j = dg x j) ∧ ok = false ∧ (((dg (zOf x) 8 == dg x 8) = false) ∨ (dg (zOf x) 8 = dg x 8 ∧ (dg (zOf x) 9 == dg x 9) = false))) := by
    intro ok hok
    cases ok
    · right
      refine ⟨fun j hj => zOf_dg x hj, rfl, ?_⟩
      by_cases e8 : dg (zOf x) 8 = dg x 8
      · right
        refine ⟨e8, ?_⟩
        by_cases e9 : dg (zOf x) 9 = dg x 9
        · exact absurd (fit128_iff.2 (zOf_top x h1 h2 e8 e9)) (by rw [hok]; decide)
        · simpa using e9
      · left; simpa using e8
    · left
      exact ⟨fun j _ => by rw [zOf_eq x (fit128_iff.1 hok)], rfl⟩
  have := Wide_core (dg x) (dg (zOf x)) (dg_bd x) (LL x) (LL (x / 18446744073709551616)) (hi (zOf x)) (fit128 x) (Int.emod_one x) (Int.emod_one _) (or0 x) (or1 x) (or2 x) (or3 x)
    (by rw [hd.1]; exact or0 _) (by rw [hd.2.1]; exact or1 _) (by rw [hd.2.2.1]; exact or2 _) (by rw [hd.2.2.2]; exact or3 _) (zOf_hi x).symm
    (fun w' => by have := LOf_c (zOf x) (zOf_w x) w'; rw [zOf_lo] at this; exact this) (hb _ rfl) w
  refine this.mono ?_
  rintro e w' ⟨rfl, hE⟩
  refine ⟨?_, hE⟩
  cases hf : fit128 x with
  | false => rfl
  | true =>
    have hz := zOf_eq x (fit128_iff.1 hf)
    show Ending.returned (.tuple #[.agg #[.int .i64 (hi (zOf x)), .int .u64 (x % 18446744073709551616)], .bool true]) = Ending.returned (.tuple #[.agg #[.int .i64 (hi x), .int .u64 (lo x)], .bool true])
    rw [hz]; rfl
end Go.Proofs.Ythancaehlijaoaa
