/- gaugerref11.Dot: sums of products, as long as each fits. -/
import Derived.Test.YthancaehlijaoaaWideL
namespace Go.Proofs.Ythancaehlijaoaa
set_option linter.unusedVariables false
open Go.RowKit

theorem zlong : (fillA (dg 0) 10 10) = #[.int .i64 0, .int .i64 0, .int .i64 0, .int .i64 0, .int .i64 0, .int .i64 0, .int .i64 0, .int .i64 0, .int .i64 0, .int .i64 0] := by
  rw [fill10]
  have h : ∀ i, dg 0 i = 0 := fun i => by unfold dg; simp
  simp only [h]
theorem prod_in {s x y : Int} (hs : W128 s) (hx : I64 x) (hy : I64 y) : -730750818665451459101842416358141509827966271488 ≤ s + x * y ∧ s + x * y < 730750818665451459101842416358141509827966271488 := by
  have := mul_w hx hy
  unfold W128 at *
  omega
theorem fin10b {Φ : World → Prop} {w W : World} {b : Nat} {x0 x1 x2 x3 x4 x5 x6 x7 x8 x9 : Value} {t : TypeId} (h : W.heap[b]? = some (.cells #[x0, x1, x2, x3, x4, x5, x6, x7, x8, x9] t (0, 0))) (hE : Ext w W) (hb : w.heap.size ≤ b) {u0 u1 u2 u3 u4 u5 u6 u7 u8 u9 : Value}
    (hΦ : ∀ W' : World, W'.heap[b]? = some (.cells #[u0, u1, u2, u3, u4, u5, u6, u7, u8, u9] t (0, 0)) → Ext w W' → (∀ j, j ≠ b → W'.heap[j]? = W.heap[j]?) → Φ W') : Φ ((((((((((W.setCell ⟨b, 0, none⟩ u0).setCell ⟨b, 1, none⟩ u1).setCell ⟨b, 2, none⟩ u2).setCell ⟨b, 3, none⟩ u3).setCell ⟨b, 4, none⟩ u4).setCell ⟨b, 5, none⟩ u5).setCell ⟨b, 6, none⟩ u6).setCell ⟨b, 7, none⟩ u7).setCell ⟨b, 8, none⟩ u8).setCell ⟨b, 9, none⟩ u9) := by
  refine fin10 (Φ := fun W' => (∀ j, j ≠ b → W'.heap[j]? = W.heap[j]?) → Φ W') h hE hb (fun W' h1 h2 h3 => hΦ W' h1 h2 h3) (fun j hj => ?_)
  rw [setCell_other _ _ hj, setCell_other _ _ hj, setCell_other _ _ hj, setCell_other _ _ hj, setCell_other _ _ hj, setCell_other _ _ hj, setCell_other _ _ hj, setCell_other _ _ hj, setCell_other _ _ hj, setCell_other _ _ hj]
set_option maxRecDepth 20000 in
set_option maxHeartbeats 8000000 in
theorem RefDot_c (a b : List Int) (v1 v2 : Value) (w : World) (ha : ∀ x ∈ a, I64 x) (hb : ∀ x ∈ b, I64 x) (hl : a.length = b.length) (hn : a.length ≤ 1152921504606846976) (h1 : IntsAt w v1 a) (h2 : IntsAt w v2 b) :
    Calls Try.prog 32 #[v1, v2] w fun e w' => e = .returned (dotV (dotF a b a.length)) ∧ Ext w w' := by
  obtain ⟨p1, c1, rfl⟩ := h1.sl
  obtain ⟨p2, c2, rfl⟩ := h2.sl
  obtain ⟨n, hN⟩ : ∃ n, a.length = n := ⟨_, rfl⟩
  have HB : Hid (b.length = n) := Lib.hid (hl.symm.trans hN)
  have HN := Lib.hid hN
  have H1 := Lib.hid h1
  have H2 := Lib.hid h2
  rw [← hl]
  rw [hN] at hn ⊢
  clear hl hN h1 h2
  go_enter Try.func32, Try.ntmps32
  go_wp2_with fail
  go_loopw [7] (fun u wr => ∃ (k : Nat) (s : Int), k ≤ n ∧ u = .int .i64 k ∧ dotF a b k = some s ∧ Ext w wr ∧ LongAt wr (w.heap.size + 1) (dg s) ∧ wr.heap[w.heap.size]? = some (.cells #[.int .i64 0, .int .u64 0] 56 (0, 0))) (fun u _ => n - (intOf u).toNat)
  case atStart =>
    refine ⟨0, 0, Nat.zero_le _, rfl, rfl, (Ext.alloc' _ _).allocR _, ?_, ?_⟩
    · unfold LongAt
      rw [zlong]
      exact heap_at _ _ (size_alloc _ _).symm
    · rw [heap_old _ _ (by rw [size_alloc]; exact Nat.lt_succ_self _)]
      exact heap_at _ _ rfl
  case round =>
    obtain ⟨k, s, hk, rfl, hs, hx, hg1, hg0⟩ := hrel
    have hg1' := hg1
    unfold LongAt at hg1'
    rw [fill10] at hg1'
    have x0 := (cell_of hg1' 0).trans rfl
    have x1 := (cell_of hg1' 1).trans rfl
    have x2 := (cell_of hg1' 2).trans rfl
    have x3 := (cell_of hg1' 3).trans rfl
    have x4 := (cell_of hg1' 4).trans rfl
    have x5 := (cell_of hg1' 5).trans rfl
    have x6 := (cell_of hg1' 6).trans rfl
    have x7 := (cell_of hg1' 7).trans rfl
    have x8 := (cell_of hg1' 8).trans rfl
    have x9 := (cell_of hg1' 9).trans rfl
    have l1 := lt_of hg1'
    by_cases hgo : k < n
    · obtain ⟨ga, oa, rfl, hga, d1⟩ := H1.out.one (k := k) (by rw [HN.out]; exact hgo)
      obtain ⟨gb, ob, rfl, hgb, d2⟩ := H2.out.one (k := k) (by rw [HB.out]; exact hgo)
      have e1 := ((bcell hx).1 ga _ hga).trans d1
      have e2 := ((bcell hx).1 gb _ hgb).trans d2
      have la : ga < wr.heap.size := Nat.lt_of_lt_of_le hga hx.size
      have lb : gb < wr.heap.size := Nat.lt_of_lt_of_le hgb hx.size
      have ia := ha _ (getD_mem (l := a) (k := k) (by rw [HN.out]; exact hgo))
      have ib := hb _ (getD_mem (l := b) (k := k) (by rw [HB.out]; exact hgo))
      have hyes := dotF_yes hs
      have hno := dotF_no hs
      have hsw := dotF_w hs
      generalize a.getD k 0 = x at *
      generalize b.getD k 0 = y at *
      have hin := prod_in hsw ia ib
      have HYES := Lib.hid hyes
      have HNO := Lib.hid hno
      have HG0 := Lib.hid hg0
      have HG1 := Lib.hid hg1'
      clear hyes hno hs hg0 hg1 hg1' d1 d2 hga hgb
      go_upto_region 7 with (fail)
      go_cut [34] (fun s34 wx => LongAt wx (w.heap.size + 1) (dg (s + x * y)) ∧ Ext w wx ∧ wx.heap[w.heap.size]? = some (.cells #[.int .i64 0, .int .u64 0] 56 (0, 0)))
      case first =>
        have hP : ∀ w' : World, Calls Try.prog 68 #[.agg #[.int .i64 (dg s 0), .int .i64 (dg s 1), .int .i64 (dg s 2), .int .i64 (dg s 3), .int .i64 (dg s 4), .int .i64 (dg s 5), .int .i64 (dg s 6), .int .i64 (dg s 7), .int .i64 (dg s 8), .int .i64 (dg s 9)], longV (x * y)] w' fun e w'' => e = .returned (longV (s + x * y)) ∧ Ext w' w'' := fun w' => LPlus_c s (x * y) w'
        have HP := Lib.hid hP
        clear hP
        refine wp_region_after_tail 13 (by kernel_rfl) (by kernel_rfl) ?_
        simp only [List.take_succ_cons, List.take_zero, List.drop_succ_cons, List.drop_zero]
        repeat (go_big_quiet_step ((first | (go_at_call 70; exact quiet_after (OfInt_c _ (by assumption) _)) | (go_at_call 69; exact quiet_after (LMul_c x y _)) | (go_at_call 68; exact quiet_after (HP.out _)))))
        refine wpQuiet_nil ?_
        rintro _ ⟨xx, rfl⟩
        obtain ⟨w4, hb4⟩ := xx
        try dsimp only
        have hq1 := hb4.keep HG1.out
        have hq0 := hb4.keep HG0.out
        have hE4 := hx.trans' hb4
        have z0 := (cell_of hq1 0).trans rfl
        have f0 := frozen_of hq1 0
        have z1 := (cell_of hq1 1).trans rfl
        have f1 := frozen_of hq1 1
        have z2 := (cell_of hq1 2).trans rfl
        have f2 := frozen_of hq1 2
        have z3 := (cell_of hq1 3).trans rfl
        have f3 := frozen_of hq1 3
        have z4 := (cell_of hq1 4).trans rfl
        have f4 := frozen_of hq1 4
        have z5 := (cell_of hq1 5).trans rfl
        have f5 := frozen_of hq1 5
        have z6 := (cell_of hq1 6).trans rfl
        have f6 := frozen_of hq1 6
        have z7 := (cell_of hq1 7).trans rfl
        have f7 := frozen_of hq1 7
        have z8 := (cell_of hq1 8).trans rfl
        have f8 := frozen_of hq1 8
        have z9 := (cell_of hq1 9).trans rfl
        have f9 := frozen_of hq1 9
        have HQ1 := Lib.hid hq1
        have HQ0 := Lib.hid hq0
        have l4 := lt_of hq1
        clear hq1 hq0 x0 x1 x2 x3 x4 x5 x6 x7 x8 x9
        unfold longV longA
        go_wp2_with fail
        refine fin10b (Φ := fun W' => Met _ _ W') HQ1.out hE4 (Nat.le_succ _) (fun W' hW hEW hO => ?_)
        go_meet
        exact ⟨by unfold LongAt; rw [fill10]; exact hW, hEW, (hO _ (by omega)).trans HQ0.out⟩
      case rest =>
        obtain ⟨hL, hEc, h0⟩ := hcut
        have hL' := hL
        unfold LongAt at hL'
        rw [fill10] at hL'
        have z0 := (cell_of hL' 0).trans rfl
        have z1 := (cell_of hL' 1).trans rfl
        have z2 := (cell_of hL' 2).trans rfl
        have z3 := (cell_of hL' 3).trans rfl
        have z4 := (cell_of hL' 4).trans rfl
        have z5 := (cell_of hL' 5).trans rfl
        have z6 := (cell_of hL' 6).trans rfl
        have z7 := (cell_of hL' 7).trans rfl
        have z8 := (cell_of hL' 8).trans rfl
        have z9 := (cell_of hL' 9).trans rfl
        have ll := lt_of hL'
        have HLL := Lib.hid hL
        have HH0 := Lib.hid h0
        clear x0 x1 x2 x3 x4 x5 x6 x7 x8 x9 hL hL' h0 hx HG0 HG1 l1 e1 e2 la lb
        go_wp2_with fail
        refine Calls.mono (LWide_c (s + x * y) hin.1 hin.2 _) ?_
        rintro e w5 ⟨rfl, hx5⟩
        have hE5 : Ext w w5 := hEc.trans' hx5
        have HL5 := Lib.hid (HLL.out.keep (hx5.block _ ll))
        have h05 := hx5.keep HH0.out
        by_cases hfit : W128 (s + x * y)
        · rw [fit128_iff.2 hfit]
          have hss := HYES.out hfit
          have HSS := Lib.hid hss
          have HH5 := Lib.hid h05
          clear hss h05 z0 z1 z2 z3 z4 z5 z6 z7 z8 z9
          simp only [cond_true, dotV]
          go_wp2_with fail
          go_roundw
          case rel => exact ⟨k + 1, s + x * y, by omega, by go_num, HSS.out, hE5.allocR _, (Ext.alloc' w5 _).keep HL5.out, (Ext.alloc' w5 _).keep HH5.out⟩
          case measure => simp [intOf]; omega
        · have hff : fit128 (s + x * y) = false := by
            cases hf : fit128 (s + x * y) with
            | false => rfl
            | true => exact absurd (fit128_iff.1 hf) hfit
          rw [hff]
          have hnil := dotF_none (HNO.out hfit) (n := n) (by omega)
          have p0 := (cell_of h05 0).trans rfl
          have p1 := (cell_of h05 1).trans rfl
          have g0 := frozen_of h05 0
          have g1 := frozen_of h05 1
          have lz := lt_of h05
          have HNIL := Lib.hid hnil
          clear hnil h05 z0 z1 z2 z3 z4 z5 z6 z7 z8 z9
          simp only [cond_false, dotV]
          go_wp2_with fail
          refine bodyPost_ret (v := .tuple #[.agg #[.int .i64 0, .int .u64 0], .bool false]) (by simp [results, Try.results32, go_sem, *]) rfl ⟨by rw [HNIL.out]; rfl, ?_⟩
          exact ((hE5.setR (p := ⟨w.heap.size, 0, none⟩) (Nat.le_refl _) _).setR (p := ⟨w.heap.size, 1, none⟩) (Nat.le_refl _) _).allocR _
    · obtain rfl : k = n := by omega
      have hsw := dotF_w hs
      have HSS := Lib.hid hs
      have HG0 := Lib.hid hg0
      clear hg0 hg1 hg1' hs
      have hb1 : -730750818665451459101842416358141509827966271488 ≤ s ∧ s < 730750818665451459101842416358141509827966271488 := by unfold W128 at hsw; omega
      go_wp2_with fail
      refine Calls.mono (LWide_c s hb1.1 hb1.2 _) ?_
      rintro e w5 ⟨rfl, hx5⟩
      rw [fit128_iff.2 hsw]
      have hE5 : Ext w w5 := hx.trans' hx5
      have h05 := hx5.keep HG0.out
      have p0 := (cell_of h05 0).trans rfl
      have p1 := (cell_of h05 1).trans rfl
      have g0 := frozen_of h05 0
      have g1 := frozen_of h05 1
      have lz := lt_of h05
      clear h05 x0 x1 x2 x3 x4 x5 x6 x7 x8 x9
      simp only [cond_true, dotV]
      go_wp2_with fail
      refine bodyPost_ret (v := .tuple #[.agg #[.int .i64 (hi s), .int .u64 (lo s)], .bool true]) (by simp [results, Try.results32, go_sem, *]) rfl ⟨by rw [HSS.out]; rfl, ?_⟩
      exact (hE5.setR (p := ⟨w.heap.size, 0, none⟩) (Nat.le_refl _) _).setR (p := ⟨w.heap.size, 1, none⟩) (Nat.le_refl _) _
end Go.Proofs.Ythancaehlijaoaa
