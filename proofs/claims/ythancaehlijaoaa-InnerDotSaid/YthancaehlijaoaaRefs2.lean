/- The references' Right, Keys, Any, Cut. -/
import Derived.Test.YthancaehlijaoaaRefs
namespace Go.Proofs.Ythancaehlijaoaa
set_option linter.unusedVariables false
open Go.RowKit

set_option maxRecDepth 20000 in
set_option maxHeartbeats 2000000 in
theorem RightR_c (c : Cfg) (h : c.Ok) (w : World) :
    Calls Try.prog 60 #[.agg #[.int .i64 c.bits, .int .i64 c.rows, .int .i64 c.width, .int .i64 c.mode, .int .u64 c.seed]] w fun e w' => e = .returned (.bool true) ∧ Ext w w' := by
  obtain ⟨b1, b2, r1, r2, w1, w2, m1, m2, s⟩ := h
  have g1 : decide (1 ≤ c.bits) = true := by simp; omega
  have g2 : decide (c.bits ≤ 59) = true := by simp; omega
  have g3 : decide (1 ≤ c.rows) = true := by simp; omega
  have g4 : decide (c.rows ≤ 8) = true := by simp; omega
  have g5 : decide (1 ≤ c.width) = true := by simp; omega
  have g6 : decide (c.width ≤ 128) = true := by simp; omega
  have hm : c.mode = 1 ∨ c.mode = 2 ∨ c.mode = 3 := by omega
  rcases hm with hm | hm | hm
  · have k1 : (c.mode == 1) = true := by simp [hm]
    have HM := Lib.hid hm
    clear hm m1 m2
    go_enter Try.func60, Try.ntmps60
    go_wp2
    go_ret
    exact ⟨rfl, by (repeat' (first | exact Ext.refl _ | assumption | apply Ext.allocR | apply Ext.drewR | apply Ext.drewNR | (refine Ext.trans' ?_ (by assumption))))⟩
  · have k1 : (c.mode == 1) = false := by simp [hm]
    have k2 : (c.mode == 2) = true := by simp [hm]
    have HM := Lib.hid hm
    clear hm m1 m2
    go_enter Try.func60, Try.ntmps60
    go_wp2
    go_ret
    exact ⟨rfl, by (repeat' (first | exact Ext.refl _ | assumption | apply Ext.allocR | apply Ext.drewR | apply Ext.drewNR | (refine Ext.trans' ?_ (by assumption))))⟩
  · have k1 : (c.mode == 1) = false := by simp [hm]
    have k2 : (c.mode == 2) = false := by simp [hm]
    have k3 : (c.mode == 3) = true := by simp [hm]
    have HM := Lib.hid hm
    clear hm m1 m2
    go_enter Try.func60, Try.ntmps60
    go_wp2
    go_ret
    exact ⟨rfl, by (repeat' (first | exact Ext.refl _ | assumption | apply Ext.allocR | apply Ext.drewR | apply Ext.drewNR | (refine Ext.trans' ?_ (by assumption))))⟩
theorem keys_step (c : Cfg) (l : Int) (k : Nat) (h : (k : Int) < c.bits - l) : (2 : Int) ^ k * 2 = (2 : Int) ^ (k + 1) := by rw [Int.pow_succ]
set_option maxRecDepth 20000 in
set_option maxHeartbeats 2000000 in
theorem KeysR_c (c : Cfg) (h : c.Ok) (l : Int) (h0 : 0 ≤ l) (h1 : l ≤ c.bits) (w : World) :
    Calls Try.prog 23 #[.agg #[.int .i64 c.bits, .int .i64 c.rows, .int .i64 c.width, .int .i64 c.mode, .int .u64 c.seed], .int .i64 l] w fun e w' => e = .returned (.int .u64 (keys c l)) ∧ Ext w w' := by
  have hk := h
  obtain ⟨b1, b2, _, _, _, _, _, _, _⟩ := h
  have g1 : decide (l < 0) = false := by simp; omega
  have g2 : decide (c.bits < l) = false := by simp; omega
  go_enter Try.func23, Try.ntmps23
  go_wp2_with fail
  refine (RightR_c c hk _).mono ?_
  rintro e w1 ⟨rfl, hb⟩
  have d0 : w1.cell? ⟨w.heap.size, 0, none⟩ = some (.int .i64 c.bits) := by rw [(bcell hb).1 _ _ (by simp [go_sem])]; simp [go_sem]
  have hE : Ext w w1 := by (repeat' (first | exact Ext.refl _ | assumption | apply Ext.allocR | apply Ext.drewR | apply Ext.drewNR | (refine Ext.trans' ?_ (by assumption))))
  clear hb
  go_wp2
  go_loop [5, 6] (fun p u => ∃ (k : Nat) (q : Int), (k : Int) ≤ c.bits - l ∧ u = .int .i64 (l + k) ∧ p = .int .u64 q ∧ q = (2 : Int) ^ k) (fun _ u => (c.bits - intOf u).toNat)
  case atStart => exact ⟨0, 1, by omega, by simp, rfl, rfl⟩
  case round =>
    obtain ⟨k, q, hk1, rfl, rfl, hq⟩ := hrel
    have hpb := pow_bd k (by omega)
    rw [← hq] at hpb
    obtain ⟨p1, p2⟩ := hpb
    have HQ := Lib.hid hq
    clear hq
    by_cases hlt : l + (k : Int) < c.bits
    · go_wp2
      go_round
      case rel => exact ⟨k + 1, q * 2, by omega, by congr 1; omega, rfl, by rw [HQ.out, Int.pow_succ]⟩
      case measure => simp [intOf]; omega
    · go_wp2
      go_ret
      refine ⟨ret_int ?_, hE⟩
      rw [HQ.out]
      unfold keys
      rw [show (c.bits - l).toNat = k by omega]
theorem set2 {w : World} {b : Nat} {x y : Value} {t : TypeId} (h : w.heap[b]? = some (.cells #[x, y] t (0, 0))) (u v : Value) : ((w.setCell ⟨b, 0, none⟩ u).setCell ⟨b, 1, none⟩ v).heap[b]? = some (.cells #[u, v] t (0, 0)) := by
  rw [setCell_same (setCell_same h 0 u) 1 v]; rfl
theorem set2_0 {w : World} {b : Nat} {x y : Value} {t : TypeId} (h : w.heap[b]? = some (.cells #[x, y] t (0, 0))) (u : Value) : (w.setCell ⟨b, 0, none⟩ u).cell? ⟨b, 0, none⟩ = some u := (cell_of (setCell_same h 0 u) 0).trans rfl
theorem set2_1 {w : World} {b : Nat} {x y : Value} {t : TypeId} (h : w.heap[b]? = some (.cells #[x, y] t (0, 0))) (u v : Value) : ((w.setCell ⟨b, 0, none⟩ u).setCell ⟨b, 1, none⟩ v).cell? ⟨b, 1, none⟩ = some v := (cell_of (set2 h u v) 1).trans rfl
/-- An update, cut. -/
def cutK (c : Cfg) (l key : Int) : Int := key % keys c l
def cutD (m d : Int) : Int := bif decide (m = 2) then max (d.tmod 1099511627776) (-(d.tmod 1099511627776)) else d.tmod 1099511627776
theorem tmod_bd (d : Int) : -1099511627776 < d.tmod 1099511627776 ∧ d.tmod 1099511627776 < 1099511627776 := ⟨Int.lt_tmod_of_pos d (by decide), Int.tmod_lt_of_pos d (by decide)⟩
theorem cutD_bd (m d : Int) : -1099511627776 < cutD m d ∧ cutD m d < 1099511627776 := by
  have := tmod_bd d
  unfold cutD
  cases decide (m = 2)
  · exact this
  · show _ < max _ _ ∧ max _ _ < _
    omega
theorem cutK_bd (c : Cfg) (h : c.Ok) (l key : Int) (h0 : 0 ≤ l) : 0 ≤ cutK c l key ∧ cutK c l key < keys c l := by
  have := keys_bd c h l h0
  exact ⟨Int.emod_nonneg _ (by omega), Int.emod_lt_of_pos _ (by omega)⟩
set_option maxRecDepth 20000 in
set_option maxHeartbeats 2000000 in
theorem Cut_c (c : Cfg) (hok : c.Ok) (l : Int) (h0 : 0 ≤ l) (h1 : l ≤ c.bits) (key d : Int) (hk : U64 key) (hd : I64 d) (w : World) :
    Calls Try.prog 54 #[.agg #[.int .i64 c.bits, .int .i64 c.rows, .int .i64 c.width, .int .i64 c.mode, .int .u64 c.seed], .int .i64 l, .agg #[.int .u64 key, .int .i64 d]] w fun e w' => e = .returned (.agg #[.int .u64 (cutK c l key), .int .i64 (cutD c.mode d)]) ∧ Ext w w' := by
  obtain ⟨t1, t2⟩ := tmod_bd d
  obtain ⟨k1, k2⟩ := hk
  obtain ⟨kb1, kb2⟩ := keys_bd c hok l h0
  obtain ⟨d1, d2⟩ := hd
  have kz : (keys c l == 0) = false := by simp; omega
  have kz2 : (keys c l = 0) = False := by simp; omega
  have hcd : cutD c.mode d = bif decide (c.mode = 2) then max (d.tmod 1099511627776) (-(d.tmod 1099511627776)) else d.tmod 1099511627776 := rfl
  have HCD := Lib.hid hcd
  have hck : cutK c l key = key % keys c l := rfl
  have HCK := Lib.hid hck
  clear hcd hck
  by_cases hm : c.mode = 2
  · have hmb : (c.mode == 2) = true := by simp [hm]
    have HM := Lib.hid hm
    clear hm
    by_cases hs0 : d.tmod 1099511627776 < 0
    · have hv : cutD c.mode d = -(d.tmod 1099511627776) := by rw [HCD.out, decide_eq_true HM.out]; show max _ _ = _; omega
      have HV := Lib.hid hv
      clear hv
      go_enter Try.func54, Try.ntmps54
      go_wp2
      refine wp_region_after_tail 8 (by kernel_rfl) (by kernel_rfl) ?_
      simp only [List.take_succ_cons, List.take_zero, List.drop_succ_cons, List.drop_zero]
      repeat (go_big_quiet_step ((go_at_call 23; exact quiet_after (KeysR_c c hok l h0 h1 _))))
      refine wpQuiet_nil ?_
      rintro _ ⟨xx, rfl⟩
      obtain ⟨w1, hb1⟩ := xx
      try dsimp only
      have hs := hb1.size
      simp only [size_alloc] at hs
      have hcell : w1.heap[w.heap.size + 1 + 1]? = some (.cells #[.int .u64 0, .int .i64 0] 34 (0, 0)) := by
        rw [hb1.block _ (by simp only [size_alloc]; omega)]
        exact heap_at _ _ (by simp only [size_alloc])
      have p0 := (cell_of hcell 0).trans rfl
      have p1 := (cell_of hcell 1).trans rfl
      have f0 := frozen_of hcell 0
      have f1 := frozen_of hcell 1
      have hE : Ext w w1 := by (repeat' (first | exact Ext.refl _ | assumption | apply Ext.allocR | apply Ext.drewR | apply Ext.drewNR | (refine Ext.trans' ?_ (by assumption))))
      clear hb1
      go_wp2
      have r0 := set2_0 hcell (.int .u64 (key % keys c l))
      have r1 := set2_1 hcell (.int .u64 (key % keys c l)) (.int .i64 (-(d.tmod 1099511627776)))
      refine bodyPost_ret (v := .agg #[.int .u64 (key % keys c l), .int .i64 (-(d.tmod 1099511627776))]) (by simp [results, Try.results54, go_sem, r0, r1]) rfl ⟨by rw [HV.out, HCK.out], ?_⟩
      exact (hE.setR (by show w.heap.size ≤ w.heap.size + 1 + 1; omega) _).setR (by show w.heap.size ≤ w.heap.size + 1 + 1; omega) _
    · have hv : cutD c.mode d = d.tmod 1099511627776 := by rw [HCD.out, decide_eq_true HM.out]; show max _ _ = _; omega
      have HV := Lib.hid hv
      clear hv
      go_enter Try.func54, Try.ntmps54
      go_wp2
      refine wp_region_after_tail 8 (by kernel_rfl) (by kernel_rfl) ?_
      simp only [List.take_succ_cons, List.take_zero, List.drop_succ_cons, List.drop_zero]
      repeat (go_big_quiet_step ((go_at_call 23; exact quiet_after (KeysR_c c hok l h0 h1 _))))
      refine wpQuiet_nil ?_
      rintro _ ⟨xx, rfl⟩
      obtain ⟨w1, hb1⟩ := xx
      try dsimp only
      have hs := hb1.size
      simp only [size_alloc] at hs
      have hcell : w1.heap[w.heap.size + 1 + 1]? = some (.cells #[.int .u64 0, .int .i64 0] 34 (0, 0)) := by
        rw [hb1.block _ (by simp only [size_alloc]; omega)]
        exact heap_at _ _ (by simp only [size_alloc])
      have p0 := (cell_of hcell 0).trans rfl
      have p1 := (cell_of hcell 1).trans rfl
      have f0 := frozen_of hcell 0
      have f1 := frozen_of hcell 1
      have hE : Ext w w1 := by (repeat' (first | exact Ext.refl _ | assumption | apply Ext.allocR | apply Ext.drewR | apply Ext.drewNR | (refine Ext.trans' ?_ (by assumption))))
      clear hb1
      go_wp2
      have r0 := set2_0 hcell (.int .u64 (key % keys c l))
      have r1 := set2_1 hcell (.int .u64 (key % keys c l)) (.int .i64 (d.tmod 1099511627776))
      refine bodyPost_ret (v := .agg #[.int .u64 (key % keys c l), .int .i64 (d.tmod 1099511627776)]) (by simp [results, Try.results54, go_sem, r0, r1]) rfl ⟨by rw [HV.out, HCK.out], ?_⟩
      exact (hE.setR (by show w.heap.size ≤ w.heap.size + 1 + 1; omega) _).setR (by show w.heap.size ≤ w.heap.size + 1 + 1; omega) _
  · have hmb : (c.mode == 2) = false := by simp [hm]
    have hv : cutD c.mode d = d.tmod 1099511627776 := by rw [HCD.out, decide_eq_false hm]; rfl
    have HV := Lib.hid hv
    clear hv hm
    go_enter Try.func54, Try.ntmps54
    go_wp2
    refine wp_region_after_tail 8 (by kernel_rfl) (by kernel_rfl) ?_
    simp only [List.take_succ_cons, List.take_zero, List.drop_succ_cons, List.drop_zero]
    repeat (go_big_quiet_step ((go_at_call 23; exact quiet_after (KeysR_c c hok l h0 h1 _))))
    refine wpQuiet_nil ?_
    rintro _ ⟨xx, rfl⟩
    obtain ⟨w1, hb1⟩ := xx
    try dsimp only
    have hs := hb1.size
    simp only [size_alloc] at hs
    have hcell : w1.heap[w.heap.size + 1 + 1]? = some (.cells #[.int .u64 0, .int .i64 0] 34 (0, 0)) := by
      rw [hb1.block _ (by simp only [size_alloc]; omega)]
      exact heap_at _ _ (by simp only [size_alloc])
    have p0 := (cell_of hcell 0).trans rfl
    have p1 := (cell_of hcell 1).trans rfl
    have f0 := frozen_of hcell 0
    have f1 := frozen_of hcell 1
    have hE : Ext w w1 := by (repeat' (first | exact Ext.refl _ | assumption | apply Ext.allocR | apply Ext.drewR | apply Ext.drewNR | (refine Ext.trans' ?_ (by assumption))))
    clear hb1
    go_wp2
    have r0 := set2_0 hcell (.int .u64 (key % keys c l))
    have r1 := set2_1 hcell (.int .u64 (key % keys c l)) (.int .i64 (d.tmod 1099511627776))
    refine bodyPost_ret (v := .agg #[.int .u64 (key % keys c l), .int .i64 (d.tmod 1099511627776)]) (by simp [results, Try.results54, go_sem, r0, r1]) rfl ⟨by rw [HV.out, HCK.out], ?_⟩
    exact (hE.setR (by show w.heap.size ≤ w.heap.size + 1 + 1; omega) _).setR (by show w.heap.size ≤ w.heap.size + 1 + 1; omega) _
end Go.Proofs.Ythancaehlijaoaa
