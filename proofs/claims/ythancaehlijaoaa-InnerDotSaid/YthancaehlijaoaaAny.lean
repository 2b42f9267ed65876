/- The reference's Any makes a right config of anything; the law's cut. -/
import Derived.Test.YthancaehlijaoaaRefs2
namespace Go.Proofs.Ythancaehlijaoaa
set_option linter.unusedVariables false
open Go.RowKit

def mkC (x : Cfg) (nb nw : Int) : Cfg := ⟨1 + x.bits % 65536 % nb, 1 + x.rows % 4, 1 + x.width % 65536 % nw, 1 + x.mode % 65536 % 3, x.seed⟩
theorem mkC_ok (x : Cfg) (hs : U64 x.seed) {nb nw : Int} (h1 : 1 ≤ nb) (h2 : nb ≤ 20) (h3 : 1 ≤ nw) (h4 : nw ≤ 20) : (mkC x nb nw).Ok := by
  have a1 := Int.emod_nonneg (x.bits % 65536) (show nb ≠ 0 by omega)
  have a2 := Int.emod_lt_of_pos (x.bits % 65536) (show 0 < nb by omega)
  have a3 := Int.emod_nonneg (x.width % 65536) (show nw ≠ 0 by omega)
  have a4 := Int.emod_lt_of_pos (x.width % 65536) (show 0 < nw by omega)
  constructor <;> simp only [mkC] <;> first | exact hs | omega
theorem fin5 {Φ : World → Prop} {w W : World} {b : Nat} {x0 x1 x2 x3 x4 : Value} {t : TypeId} (h : W.heap[b]? = some (.cells #[x0, x1, x2, x3, x4] t (0, 0))) (hE : Ext w W) (hb : w.heap.size ≤ b) {u0 u1 u2 u3 u4 : Value}
    (k : ∀ Wf, Wf.heap[b]? = some (.cells #[u0, u1, u2, u3, u4] t (0, 0)) → Ext w Wf → (∀ j, j ≠ b → Wf.heap[j]? = W.heap[j]?) → Wf.heap.size = W.heap.size → Φ Wf) :
    Φ (((((W.setCell ⟨b, 0, none⟩ u0).setCell ⟨b, 1, none⟩ u1).setCell ⟨b, 2, none⟩ u2).setCell ⟨b, 3, none⟩ u3).setCell ⟨b, 4, none⟩ u4) := by
  refine k _ ?_ (((((hE.setR hb _).setR hb _).setR hb _).setR hb _).setR hb _) (fun j hj => ?_) (by simp only [size_setCell])
  · rw [setCell_same (setCell_same (setCell_same (setCell_same (setCell_same h 0 u0) 1 u1) 2 u2) 3 u3) 4 u4]; rfl
  · rw [setCell_other _ _ hj, setCell_other _ _ hj, setCell_other _ _ hj, setCell_other _ _ hj, setCell_other _ _ hj]
theorem fin2 {Φ : World → Prop} {w W : World} {b : Nat} {x0 x1 : Value} {t : TypeId} (h : W.heap[b]? = some (.cells #[x0, x1] t (0, 0))) (hE : Ext w W) (hb : w.heap.size ≤ b) {u0 u1 : Value}
    (k : ∀ Wf, Wf.heap[b]? = some (.cells #[u0, u1] t (0, 0)) → Ext w Wf → (∀ j, j ≠ b → Wf.heap[j]? = W.heap[j]?) → Wf.heap.size = W.heap.size → Φ Wf) :
    Φ ((W.setCell ⟨b, 0, none⟩ u0).setCell ⟨b, 1, none⟩ u1) := by
  refine k _ (set2 h u0 u1) ((hE.setR hb _).setR hb _) (fun j hj => ?_) (by simp only [size_setCell])
  rw [setCell_other _ _ hj, setCell_other _ _ hj]
set_option maxRecDepth 20000 in
set_option maxHeartbeats 2000000 in
theorem Any_c (x : Cfg) (hx : x.Raw) (nb nw : Int) (h1 : 1 ≤ nb) (h2 : nb ≤ 20) (h3 : 1 ≤ nw) (h4 : nw ≤ 20) (w : World) :
    Calls Try.prog 33 #[.agg #[.int .i64 x.bits, .int .i64 x.rows, .int .i64 x.width, .int .i64 x.mode, .int .u64 x.seed], .int .i64 nb, .int .i64 nw] w fun e w' =>
      e = .returned (.agg #[.int .i64 (mkC x nb nw).bits, .int .i64 (mkC x nb nw).rows, .int .i64 (mkC x nb nw).width, .int .i64 (mkC x nb nw).mode, .int .u64 (mkC x nb nw).seed]) ∧ Ext w w' := by
  have hb := and16 x.bits
  have hr := and16 x.rows
  have hw := and16 x.width
  have hm := and16 x.mode
  have a1 := Int.emod_nonneg (x.bits % 65536) (show nb ≠ 0 by omega)
  have a2 := Int.emod_lt_of_pos (x.bits % 65536) (show 0 < nb by omega)
  have a3 := Int.emod_nonneg (x.width % 65536) (show nw ≠ 0 by omega)
  have a4 := Int.emod_lt_of_pos (x.width % 65536) (show 0 < nw by omega)
  have z1 : (nb == 0) = false := by simp; omega
  have z2 : (nw == 0) = false := by simp; omega
  go_enter Try.func33, Try.ntmps33
  go_wp2
  refine wp_region_after_tail 25 (by kernel_rfl) (by kernel_rfl) ?_
  simp only [List.take_succ_cons, List.take_zero, List.drop_succ_cons, List.drop_zero]
  repeat (go_big_quiet_step (fail))
  refine wpQuiet_nil ?_
  rintro _ ⟨xx, rfl⟩
  obtain ⟨w1, hb1⟩ := xx
  try dsimp only
  have hs := hb1.size
  simp only [size_alloc] at hs
  have hcell : w1.heap[w.heap.size + 1]? = some (.cells #[.int .i64 0, .int .i64 0, .int .i64 0, .int .i64 0, .int .u64 0] 24 (0, 0)) := by
    rw [hb1.block _ (by simp only [size_alloc]; omega)]
    exact heap_at _ _ (by simp only [size_alloc])
  have p0 := (cell_of hcell 0).trans rfl
  have p1 := (cell_of hcell 1).trans rfl
  have p2 := (cell_of hcell 2).trans rfl
  have p3 := (cell_of hcell 3).trans rfl
  have p4 := (cell_of hcell 4).trans rfl
  have f0 := frozen_of hcell 0
  have f1 := frozen_of hcell 1
  have f2 := frozen_of hcell 2
  have f3 := frozen_of hcell 3
  have f4 := frozen_of hcell 4
  have hE : Ext w w1 := by (repeat' (first | exact Ext.refl _ | assumption | apply Ext.allocR | apply Ext.drewR | apply Ext.drewNR | (refine Ext.trans' ?_ (by assumption))))
  clear hb1
  go_wp2
  refine fin5 (Φ := fun W' => bodyPost _ _ _ _ _ W') hcell hE (by omega) ?_
  intro Wf hf hE2 _ _
  have q0 := (cell_of hf 0).trans rfl
  have q1 := (cell_of hf 1).trans rfl
  have q2 := (cell_of hf 2).trans rfl
  have q3 := (cell_of hf 3).trans rfl
  have q4 := (cell_of hf 4).trans rfl
  exact bodyPost_ret (v := .agg #[.int .i64 (1 + x.bits % 65536 % nb), .int .i64 (1 + x.rows % 4), .int .i64 (1 + x.width % 65536 % nw), .int .i64 (1 + x.mode % 65536 % 3), .int .u64 x.seed]) (by simp [results, Try.results33, go_sem, q0, q1, q2, q3, q4]) rfl ⟨rfl, hE2⟩
set_option maxRecDepth 20000 in
set_option maxHeartbeats 2000000 in
theorem cut_c (c : Cfg) (hok : c.Ok) (l : Int) (h0 : 0 ≤ l) (h1 : l ≤ c.bits) (key d : Int) (hk : U64 key) (hd : I64 d) (w : World) :
    Calls Try.prog 19 #[.agg #[.int .i64 c.bits, .int .i64 c.rows, .int .i64 c.width, .int .i64 c.mode, .int .u64 c.seed], .int .i64 l, .agg #[.int .u64 key, .int .i64 d]] w fun e w' => e = .returned (.agg #[.int .u64 (cutK c l key), .int .i64 (cutD c.mode d)]) ∧ Ext w w' := by
  go_enter Try.func19, Try.ntmps19
  go_wp2_with fail
  refine (Cut_c c hok l h0 h1 key d hk hd _).mono ?_
  rintro e w1 ⟨rfl, hb1⟩
  have hs := hb1.size
  simp only [size_alloc] at hs
  have hcell : w1.heap[w.heap.size + 1 + 1]? = some (.cells #[.int .u64 0, .int .i64 0] 34 (0, 0)) := by
    rw [hb1.block _ (by simp only [size_alloc]; omega)]
    exact heap_at _ _ (by simp only [size_alloc])
  have p0 := (cell_of hcell 0).trans rfl
  have p1 := (cell_of hcell 1).trans rfl
  have f0 := frozen_of hcell 0
  have f1 := frozen_of hcell 1
  have hE : Ext w w1 := by (repeat' (first | exact Ext.refl _ | assumption | apply Ext.allocR | apply Ext.drewR | apply Ext.drewNR | (refine Ext.trans' ?_ (by assumption))))
  clear hb1
  go_wp2
  refine fin2 (Φ := fun W' => bodyPost _ _ _ _ _ W') hcell hE (by omega) ?_
  intro Wf hf hE2 _ _
  have q0 := (cell_of hf 0).trans rfl
  have q1 := (cell_of hf 1).trans rfl
  exact bodyPost_ret (v := .agg #[.int .u64 (cutK c l key), .int .i64 (cutD c.mode d)]) (by simp [results, Try.results19, go_sem, q0, q1]) rfl ⟨rfl, hE2⟩
end Go.Proofs.Ythancaehlijaoaa
