/- grid.Plus, grid.Minus: two grids, cell by cell; nothing is changed if one cell does not fit. -/
import Derived.Test.YthancaehlijaoaaAInnerSums3
import Derived.Laws.CopyOwn

/- grid.Plus, grid.Minus: two grids, cell by cell; nothing is changed if one cell does not fit. -/
namespace Go.Proofs.Ythancaehlijaoaa
set_option linter.unusedVariables false
open Go.RowKit

def allI (l : List Int) : Prop := ∀ x ∈ l, I64 x
def JoinPost (w : World) (b c R W : Nat) (m : List Int) (e : Ending) (w' : World) : Prop :=
  (allI m ∧ e = .returned (.int .i64 0) ∧ GAt w' b c R W m ∧ Mod (fun k => k = c) w w') ∨ (¬ allI m ∧ e = .returned (.int .i64 4) ∧ Ext w w')
def plusL (l m : List Int) : List Int := (List.range l.length).map fun k => l.getD k 0 + m.getD k 0
def minusL (l m : List Int) : List Int := (List.range l.length).map fun k => l.getD k 0 - m.getD k 0
theorem plusL_len (l m : List Int) : (plusL l m).length = l.length := by simp [plusL]
theorem minusL_len (l m : List Int) : (minusL l m).length = l.length := by simp [minusL]
theorem map_all {f : Nat → Int} {n : Nat} (h : ∀ j, j < n → I64 (f j)) : allI ((List.range n).map f) := by
  intro x hx
  simp only [List.mem_map, List.mem_range] at hx
  obtain ⟨j, hj, rfl⟩ := hx
  exact h j hj
theorem map_not {f : Nat → Int} {n j : Nat} (hj : j < n) (h : ¬ I64 (f j)) : ¬ allI ((List.range n).map f) := by
  intro ha
  exact h (ha _ (by simp only [List.mem_map, List.mem_range]; exact ⟨j, hj, rfl⟩))
theorem ints_one {l : List Int} : ∀ v ∈ ints l, v.oneCell' = true := by
  intro v hv
  simp only [ints, List.mem_map] at hv
  obtain ⟨x, _, rfl⟩ := hv
  rfl
theorem CAt.copied {w : World} {c cap : Nat} {l m : List Int} {cur : Array Value} (hg : w.heap[c]? = some (.cells cur 2 (0, 0))) (hs : cur.size = cap) (hle : l.length ≤ cap) (hmx : cap ≤ maxLen) (hm : m.length = l.length) :
    CAt (w.setRow c (cur.toList.take 0 ++ (Go.Proofs.Ythancaehlijaoaa.ints m ++ cur.toList.drop (0 + (Go.Proofs.Ythancaehlijaoaa.ints m).length))).toArray) c cap m := by
  refine ⟨⟨_, setRow_heap w c _ _ _ _ hg, ?_, ?_⟩, by omega, hmx⟩
  · simp [Go.Proofs.Ythancaehlijaoaa.ints]; omega
  · simp [Go.Proofs.Ythancaehlijaoaa.ints]
theorem CAt.copied' {w : World} {c cap : Nat} {l m : List Int} {cur : Array Value} (hg : w.heap[c]? = some (.cells cur 2 (0, 0))) (hs : cur.size = cap) (hle : l.length ≤ cap) (hmx : cap ≤ maxLen) (hm : m.length = l.length) :
    CAt (w.setRow c (Go.Proofs.Ythancaehlijaoaa.ints m ++ cur.toList.drop (Go.Proofs.Ythancaehlijaoaa.ints m).length).toArray) c cap m := by
  have := CAt.copied (w := w) (l := l) (m := m) hg hs hle hmx hm
  simpa using this
theorem mod_row {w w' : World} {c : Nat} (h : Mod (fun k => k = c) w w') (cs : Array Value) : Mod (fun k => k = c) w (w'.setRow c cs) :=
  ⟨h.os, h.tape, h.output, by rw [size_setRow]; exact h.size, fun k hk hn => (setRow_other _ _ _ _ hn).trans (h.block k hk hn)⟩
theorem addr_plain (b off i : Nat) : (Addr.add ⟨b, off, none⟩ i) = ⟨b, off + i, none⟩ := by
  unfold Addr.add
  by_cases h : i = 0
  · subst h; simp
  · simp [h]
theorem GAt.row {w wr : World} {b c R W : Nat} {l m : List Int} (h : GAt w b c R W l) (hE : Ext w wr) {cur : Array Value} {cap : Nat} (hb : w.heap[b]? = some (.cells #[.int .i64 R, .int .i64 W, .slice (some ⟨c, 0, none⟩) l.length cap] 135 (0, 0))) (hc : CAt w c cap l)
    (hg : wr.heap[c]? = some (.cells cur 2 (0, 0))) (hs : cur.size = cap) (hm : m.length = l.length) :
    GAt (wr.setRow c (ints m ++ cur.toList.drop (ints m).length).toArray) b c R W m :=
  ⟨⟨cap, by rw [setRow_other _ _ _ _ h.ne, hE.block b h.ltb, hm]; exact hb, CAt.copied' hg hs hc.le hc.mx hm⟩, h.r1, h.r2, h.w1, h.w2, by rw [hm]; exact h.len⟩
theorem Plus_fit (a b : Int) (ha : I64 a) (hb : I64 b) (h : I64 (a + b)) (w : World) :
    Calls Try.prog 84 #[.int .i64 a, .int .i64 b] w fun e w' => e = .returned (.tuple #[.int .i64 (a + b), .bool true]) ∧ Ext w w' :=
  (Plus_c a b ha hb w).mono fun _ _ ⟨he, hx⟩ => ⟨by rw [he, fitN, fitB_yes h]; rfl, hx⟩
theorem Plus_no (a b : Int) (ha : I64 a) (hb : I64 b) (h : ¬ I64 (a + b)) (w : World) :
    Calls Try.prog 84 #[.int .i64 a, .int .i64 b] w fun e w' => e = .returned (.tuple #[.int .i64 0, .bool false]) ∧ Ext w w' :=
  (Plus_c a b ha hb w).mono fun _ _ ⟨he, hx⟩ => ⟨by rw [he, fitN, fitB_no h]; rfl, hx⟩
set_option maxRecDepth 20000 in
set_option maxHeartbeats 2000000 in
theorem allPlus_c (b c b2 c2 R W : Nat) (l l2 : List Int) (w : World) (h : GAt w b c R W l) (h2 : GAt w b2 c2 R W l2) (hI : allI l) (hI2 : allI l2) :
    Calls Try.prog 95 #[.agg #[.pointer (some ⟨b, 0, none⟩), .func (.func 84) #[] #[]], .pointer (some ⟨b2, 0, none⟩)] w (JoinPost w b c R W (plusL l l2)) := by
  obtain ⟨cap, hb, hc⟩ := h.ex
  obtain ⟨cap2, hb2, hc2⟩ := h2.ex
  have hl := h.len
  have hl2 := h2.len
  have hN1 : R * W ≤ 1024 := Nat.le_trans (Nat.mul_le_mul h.r2 h.w2) (by decide)
  have hN2 : 1 ≤ R * W := Nat.mul_pos h.r1 h.w1
  have hLL : plusL l l2 = (List.range l.length).map fun k => l.getD k 0 + l2.getD k 0 := rfl
  rw [hLL]
  have HB := Lib.hid hb
  rw [hl] at hb ⊢
  rw [hl2] at hb2
  generalize hNN : R * W = N at *
  obtain ⟨f, hf⟩ : ∃ f : Nat → Int, f = fun k => l.getD k 0 + l2.getD k 0 := ⟨_, rfl⟩
  rw [← hf]
  have HF := Lib.hid hf
  have HL := Lib.hid hl
  have HL2 := Lib.hid hl2
  have HNN := Lib.hid hNN
  have e0 := (cell_of hb 0).trans rfl
  have e1 := (cell_of hb 1).trans rfl
  have e2 := (cell_of hb 2).trans rfl
  have k0 := (cell_of hb2 0).trans rfl
  have k1 := (cell_of hb2 1).trans rfl
  have k2 := (cell_of hb2 2).trans rfl
  have ltb := h.ltb
  have ltc := h.ltc
  have ltb2 := h2.ltb
  have ltc2 := h2.ltc
  obtain ⟨ii, hi, hz0, hz1, hz2⟩ := info_parts info_i64
  have hmk := fun (x : World) => run_make_ints 32 2 ii Try.underlying32 hi hz0 hz1 hz2 N (by omega) f x
  have HH := Lib.hid h
  have HH2 := Lib.hid h2
  have HC := Lib.hid hc
  have HC2 := Lib.hid hc2
  clear hf hl hl2 hNN hb hb2 h h2 hc hc2 hLL hi hz0 hz1 hz2
  go_enter Try.func95, Try.ntmps95
  go_wp2_with fail
  refine wp_region_after (by kernel_rfl) (by kernel_rfl) ?_
  repeat (go_big_quiet_step (fail))
  refine wpQuiet_nil ?_
  rintro _ ⟨xx, rfl⟩
  obtain ⟨w1, hb1⟩ := xx
  try dsimp only
  have hj0 : w1.cell? ⟨w.heap.size, 0, none⟩ = some (.pointer (some ⟨b, 0, none⟩)) := by rw [(bcell hb1).1 _ _ (by rw [size_alloc]; omega)]; simp [go_sem]
  have hj1 : w1.cell? ⟨w.heap.size, 1, none⟩ = some (.func (.func 84) #[] #[]) := by rw [(bcell hb1).1 _ _ (by rw [size_alloc]; omega)]; simp [go_sem]
  have hbs := hb1.size
  rw [size_alloc] at hbs
  have hE : Ext w w1 := by (repeat' (first | exact Ext.refl _ | assumption | apply Ext.allocR | apply Ext.drewR | apply Ext.drewNR | (refine Ext.trans' ?_ (by assumption))))
  clear hb1
  have e2' := ((bcell hE).1 _ _ ltb).trans e2
  have k2' := ((bcell hE).1 _ _ ltb2).trans k2
  have lb1 : b < w1.heap.size := Nat.lt_of_lt_of_le ltb hE.size
  have lb2 : b2 < w1.heap.size := Nat.lt_of_lt_of_le ltb2 hE.size
  clear e0 e1 k0 k1 e2 k2
  go_wp2_with fail
  clear hmk
  go_loopw [48] (fun u48 wr => ∃ k : Nat, k ≤ N ∧ u48 = .int .i64 k ∧ (∀ j, j < k → I64 (f j)) ∧ Ext w1 wr ∧ w1.heap.size < wr.heap.size ∧ wr.heap[w1.heap.size]? = some (.cells (fillA f k N) 2 (0, 0))) (fun u48 _ => N - (intOf u48).toNat)
  case atStart => exact ⟨0, Nat.zero_le _, rfl, fun j hj => absurd hj (Nat.not_lt_zero j), Ext.alloc' _ _, by rw [size_alloc]; omega, heap_at _ _ rfl⟩
  case round =>
    obtain ⟨k, hk, rfl, hfit, hx, hsz, hg2⟩ := hrel
    have HFIT := Lib.hid hfit
    clear hfit
    have hEw : Ext w wr := hE.trans' hx
    have j0 := ((bcell hx).1 _ 0 (show w.heap.size < w1.heap.size by omega)).trans hj0
    have j1 := ((bcell hx).1 _ 1 (show w.heap.size < w1.heap.size by omega)).trans hj1
    have g2 := ((bcell hx).1 _ 2 (show b < w1.heap.size by omega)).trans e2'
    have m2 := ((bcell hx).1 _ 2 (show b2 < w1.heap.size by omega)).trans k2'
    have s0 : w.heap.size < wr.heap.size := by omega
    have s1 : b < wr.heap.size := by omega
    have s2 : b2 < wr.heap.size := by omega
    have s3 : c < wr.heap.size := by omega
    have s4 : c2 < wr.heap.size := by omega
    by_cases hlt : k < N
    · have x0 := ((bcell hEw).1 _ k ltc).trans (HC.out.cell (i := k) (by rw [HL.out]; exact hlt))
      have x1 := ((bcell hEw).1 _ k ltc2).trans (HC2.out.cell (i := k) (by rw [HL2.out]; exact hlt))
      have hfk : f k = l.getD k 0 + l2.getD k 0 := by rw [HF.out]
      have i0 := getD_i64 hI k
      have i1 := getD_i64 hI2 k
      generalize l.getD k 0 = a at *
      generalize l2.getD k 0 = a2 at *
      obtain ⟨v0, d0⟩ : ∃ v0, wr.cell? ⟨w1.heap.size, k, none⟩ = some v0 := ⟨_, (cell_of hg2 k).trans (fillA_at _ _ _ _ hlt)⟩
      have d1 := frozen_of hg2 k
      have HG := Lib.hid hg2
      clear hg2
      by_cases hf : I64 (a + a2)
      · have HFK := Lib.hid hfk
        have HFI := Lib.hid hf
        clear hfk hf
        go_wp2_with fail
        refine wp_region_after (by kernel_rfl) (by kernel_rfl) ?_
        repeat (go_big_quiet_step ((go_at_call 84; exact quiet_after (Plus_fit a a2 i0 i1 HFI.out _))))
        refine wpQuiet_nil ?_
        rintro _ ⟨xx, rfl⟩
        obtain ⟨w5, hb5⟩ := xx
        try dsimp only
        have d0' := ((bcell hb5).1 _ _ hsz).trans d0
        have d1' := ((bcell hb5).2 _ _ hsz).trans d1
        have hg5 := (hb5.block _ hsz).trans HG.out
        have HG5 := Lib.hid hg5
        have hx5 := hx.trans' hb5
        have hs5 := hb5.size
        clear hg5 d0 d1
        go_wp2_with fail
        go_roundw
        case rel =>
          refine ⟨k + 1, by omega, by go_num, fun j hj => ?_, hx5.setR (Nat.le_refl _) _, by rw [size_setCell]; omega, ?_⟩
          · by_cases hjk : j < k
            · exact HFIT.out j hjk
            · obtain rfl : j = k := by omega
              rw [HFK.out]; exact HFI.out
          · rw [setCell_same HG5.out, ← fillA_set, HFK.out]
        case measure => simp [intOf]; omega
      · have HFK := Lib.hid hfk
        have HFI := Lib.hid hf
        clear hfk hf
        go_wp2_with fail
        refine wp_region_after (by kernel_rfl) (by kernel_rfl) ?_
        repeat (go_big_quiet_step ((go_at_call 84; exact quiet_after (Plus_no a a2 i0 i1 HFI.out _))))
        refine wpQuiet_nil ?_
        rintro _ ⟨xx, rfl⟩
        obtain ⟨w5, hb5⟩ := xx
        try dsimp only
        go_wp2_with fail
        go_ret
        refine .inr ⟨?_, rfl, hEw.trans' hb5⟩
        exact map_not hlt (by rw [HFK.out]; exact HFI.out)
    · have HG := Lib.hid hg2
      clear hg2
      obtain rfl : k = N := by omega
      obtain ⟨cur, hcur, hcs, hct⟩ := (HC.out.keep (hEw.block c ltc)).ex
      have HCUR := Lib.hid hcur
      have HCS := Lib.hid hcs
      clear hcur hcs hct
      go_wp2_with (with_reducible refine wpList_copy_own rfl _ _ 32 32 rfl 2 Try.underlying32 (by kernel_rfl) c 0 _ _ ⟨w1.heap.size, 0, none⟩ _ _ rfl rfl cur 2 HCUR.out (ints ((List.range k).map f)) ?a1 ?a2 ?a3 ints_one ?_)
      case a1 => simp [ints]
      case a2 =>
        intro j v hj
        rw [addr_plain, Nat.zero_add, cell_of HG.out j, ← Array.getElem?_toList, fillA_done]
        exact hj
      case a3 =>
        have := HCS.out
        have := HC.out.le
        rw [HL.out] at this
        simp only [ints, List.length_map, List.length_range]
        omega
      go_ret
      refine .inl ⟨map_all HFIT.out, rfl, ?_, ?_⟩
      · exact HH.out.row hEw HB.out HC.out HCUR.out HCS.out (by rw [HL.out]; simp)
      · exact mod_row (hEw.mod _) _
theorem Minus_fit (a b : Int) (ha : I64 a) (hb : I64 b) (h : I64 (a - b)) (w : World) :
    Calls Try.prog 103 #[.int .i64 a, .int .i64 b] w fun e w' => e = .returned (.tuple #[.int .i64 (a - b), .bool true]) ∧ Ext w w' :=
  (Minus_c a b ha hb w).mono fun _ _ ⟨he, hx⟩ => ⟨by rw [he, fitN, fitB_yes h]; rfl, hx⟩
theorem Minus_no (a b : Int) (ha : I64 a) (hb : I64 b) (h : ¬ I64 (a - b)) (w : World) :
    Calls Try.prog 103 #[.int .i64 a, .int .i64 b] w fun e w' => e = .returned (.tuple #[.int .i64 0, .bool false]) ∧ Ext w w' :=
  (Minus_c a b ha hb w).mono fun _ _ ⟨he, hx⟩ => ⟨by rw [he, fitN, fitB_no h]; rfl, hx⟩
set_option maxRecDepth 20000 in
set_option maxHeartbeats 2000000 in
theorem allMinus_c (b c b2 c2 R W : Nat) (l l2 : List Int) (w : World) (h : GAt w b c R W l) (h2 : GAt w b2 c2 R W l2) (hI : allI l) (hI2 : allI l2) :
    Calls Try.prog 95 #[.agg #[.pointer (some ⟨b, 0, none⟩), .func (.func 103) #[] #[]], .pointer (some ⟨b2, 0, none⟩)] w (JoinPost w b c R W (minusL l l2)) := by
  obtain ⟨cap, hb, hc⟩ := h.ex
  obtain ⟨cap2, hb2, hc2⟩ := h2.ex
  have hl := h.len
  have hl2 := h2.len
  have hN1 : R * W ≤ 1024 := Nat.le_trans (Nat.mul_le_mul h.r2 h.w2) (by decide)
  have hN2 : 1 ≤ R * W := Nat.mul_pos h.r1 h.w1
  have hLL : minusL l l2 = (List.range l.length).map fun k => l.getD k 0 - l2.getD k 0 := rfl
  rw [hLL]
  have HB := Lib.hid hb
  rw [hl] at hb ⊢
  rw [hl2] at hb2
  generalize hNN : R * W = N at *
  obtain ⟨f, hf⟩ : ∃ f : Nat → Int, f = fun k => l.getD k 0 - l2.getD k 0 := ⟨_, rfl⟩
  rw [← hf]
  have HF := Lib.hid hf
  have HL := Lib.hid hl
  have HL2 := Lib.hid hl2
  have HNN := Lib.hid hNN
  have e0 := (cell_of hb 0).trans rfl
  have e1 := (cell_of hb 1).trans rfl
  have e2 := (cell_of hb 2).trans rfl
  have k0 := (cell_of hb2 0).trans rfl
  have k1 := (cell_of hb2 1).trans rfl
  have k2 := (cell_of hb2 2).trans rfl
  have ltb := h.ltb
  have ltc := h.ltc
  have ltb2 := h2.ltb
  have ltc2 := h2.ltc
  obtain ⟨ii, hi, hz0, hz1, hz2⟩ := info_parts info_i64
  have hmk := fun (x : World) => run_make_ints 32 2 ii Try.underlying32 hi hz0 hz1 hz2 N (by omega) f x
  have HH := Lib.hid h
  have HH2 := Lib.hid h2
  have HC := Lib.hid hc
  have HC2 := Lib.hid hc2
  clear hf hl hl2 hNN hb hb2 h h2 hc hc2 hLL hi hz0 hz1 hz2
  go_enter Try.func95, Try.ntmps95
  go_wp2_with fail
  refine wp_region_after (by kernel_rfl) (by kernel_rfl) ?_
  repeat (go_big_quiet_step (fail))
  refine wpQuiet_nil ?_
  rintro _ ⟨xx, rfl⟩
  obtain ⟨w1, hb1⟩ := xx
  try dsimp only
  have hj0 : w1.cell? ⟨w.heap.size, 0, none⟩ = some (.pointer (some ⟨b, 0, none⟩)) := by rw [(bcell hb1).1 _ _ (by rw [size_alloc]; omega)]; simp [go_sem]
  have hj1 : w1.cell? ⟨w.heap.size, 1, none⟩ = some (.func (.func 103) #[] #[]) := by rw [(bcell hb1).1 _ _ (by rw [size_alloc]; omega)]; simp [go_sem]
  have hbs := hb1.size
  rw [size_alloc] at hbs
  have hE : Ext w w1 := by (repeat' (first | exact Ext.refl _ | assumption | apply Ext.allocR | apply Ext.drewR | apply Ext.drewNR | (refine Ext.trans' ?_ (by assumption))))
  clear hb1
  have e2' := ((bcell hE).1 _ _ ltb).trans e2
  have k2' := ((bcell hE).1 _ _ ltb2).trans k2
  have lb1 : b < w1.heap.size := Nat.lt_of_lt_of_le ltb hE.size
  have lb2 : b2 < w1.heap.size := Nat.lt_of_lt_of_le ltb2 hE.size
  clear e0 e1 k0 k1 e2 k2
  go_wp2_with fail
  clear hmk
  go_loopw [48] (fun u48 wr => ∃ k : Nat, k ≤ N ∧ u48 = .int .i64 k ∧ (∀ j, j < k → I64 (f j)) ∧ Ext w1 wr ∧ w1.heap.size < wr.heap.size ∧ wr.heap[w1.heap.size]? = some (.cells (fillA f k N) 2 (0, 0))) (fun u48 _ => N - (intOf u48).toNat)
  case atStart => exact ⟨0, Nat.zero_le _, rfl, fun j hj => absurd hj (Nat.not_lt_zero j), Ext.alloc' _ _, by rw [size_alloc]; omega, heap_at _ _ rfl⟩
  case round =>
    obtain ⟨k, hk, rfl, hfit, hx, hsz, hg2⟩ := hrel
    have HFIT := Lib.hid hfit
    clear hfit
    have hEw : Ext w wr := hE.trans' hx
    have j0 := ((bcell hx).1 _ 0 (show w.heap.size < w1.heap.size by omega)).trans hj0
    have j1 := ((bcell hx).1 _ 1 (show w.heap.size < w1.heap.size by omega)).trans hj1
    have g2 := ((bcell hx).1 _ 2 (show b < w1.heap.size by omega)).trans e2'
    have m2 := ((bcell hx).1 _ 2 (show b2 < w1.heap.size by omega)).trans k2'
    have s0 : w.heap.size < wr.heap.size := by omega
    have s1 : b < wr.heap.size := by omega
    have s2 : b2 < wr.heap.size := by omega
    have s3 : c < wr.heap.size := by omega
    have s4 : c2 < wr.heap.size := by omega
    by_cases hlt : k < N
    · have x0 := ((bcell hEw).1 _ k ltc).trans (HC.out.cell (i := k) (by rw [HL.out]; exact hlt))
      have x1 := ((bcell hEw).1 _ k ltc2).trans (HC2.out.cell (i := k) (by rw [HL2.out]; exact hlt))
      have hfk : f k = l.getD k 0 - l2.getD k 0 := by rw [HF.out]
      have i0 := getD_i64 hI k
      have i1 := getD_i64 hI2 k
      generalize l.getD k 0 = a at *
      generalize l2.getD k 0 = a2 at *
      obtain ⟨v0, d0⟩ : ∃ v0, wr.cell? ⟨w1.heap.size, k, none⟩ = some v0 := ⟨_, (cell_of hg2 k).trans (fillA_at _ _ _ _ hlt)⟩
      have d1 := frozen_of hg2 k
      have HG := Lib.hid hg2
      clear hg2
      by_cases hf : I64 (a - a2)
      · have HFK := Lib.hid hfk
        have HFI := Lib.hid hf
        clear hfk hf
        go_wp2_with fail
        refine wp_region_after (by kernel_rfl) (by kernel_rfl) ?_
        repeat (go_big_quiet_step ((go_at_call 103; exact quiet_after (Minus_fit a a2 i0 i1 HFI.out _))))
        refine wpQuiet_nil ?_
        rintro _ ⟨xx, rfl⟩
        obtain ⟨w5, hb5⟩ := xx
        try dsimp only
        have d0' := ((bcell hb5).1 _ _ hsz).trans d0
        have d1' := ((bcell hb5).2 _ _ hsz).trans d1
        have hg5 := (hb5.block _ hsz).trans HG.out
        have HG5 := Lib.hid hg5
        have hx5 := hx.trans' hb5
        have hs5 := hb5.size
        clear hg5 d0 d1
        go_wp2_with fail
        go_roundw
        case rel =>
          refine ⟨k + 1, by omega, by go_num, fun j hj => ?_, hx5.setR (Nat.le_refl _) _, by rw [size_setCell]; omega, ?_⟩
          · by_cases hjk : j < k
            · exact HFIT.out j hjk
            · obtain rfl : j = k := by omega
              rw [HFK.out]; exact HFI.out
          · rw [setCell_same HG5.out, ← fillA_set, HFK.out]
        case measure => simp [intOf]; omega
      · have HFK := Lib.hid hfk
        have HFI := Lib.hid hf
        clear hfk hf
        go_wp2_with fail
        refine wp_region_after (by kernel_rfl) (by kernel_rfl) ?_
        repeat (go_big_quiet_step ((go_at_call 103; exact quiet_after (Minus_no a a2 i0 i1 HFI.out _))))
        refine wpQuiet_nil ?_
        rintro _ ⟨xx, rfl⟩
        obtain ⟨w5, hb5⟩ := xx
        try dsimp only
        go_wp2_with fail
        go_ret
        refine .inr ⟨?_, rfl, hEw.trans' hb5⟩
        exact map_not hlt (by rw [HFK.out]; exact HFI.out)
    · have HG := Lib.hid hg2
      clear hg2
      obtain rfl : k = N := by omega
      obtain ⟨cur, hcur, hcs, hct⟩ := (HC.out.keep (hEw.block c ltc)).ex
      have HCUR := Lib.hid hcur
      have HCS := Lib.hid hcs
      clear hcur hcs hct
      go_wp2_with (with_reducible refine wpList_copy_own rfl _ _ 32 32 rfl 2 Try.underlying32 (by kernel_rfl) c 0 _ _ ⟨w1.heap.size, 0, none⟩ _ _ rfl rfl cur 2 HCUR.out (ints ((List.range k).map f)) ?a1 ?a2 ?a3 ints_one ?_)
      case a1 => simp [ints]
      case a2 =>
        intro j v hj
        rw [addr_plain, Nat.zero_add, cell_of HG.out j, ← Array.getElem?_toList, fillA_done]
        exact hj
      case a3 =>
        have := HCS.out
        have := HC.out.le
        rw [HL.out] at this
        simp only [ints, List.length_map, List.length_range]
        omega
      go_ret
      refine .inl ⟨map_all HFIT.out, rfl, ?_, ?_⟩
      · exact HH.out.row hEw HB.out HC.out HCUR.out HCS.out (by rw [HL.out]; simp)
      · exact mod_row (hEw.mod _) _
end Go.Proofs.Ythancaehlijaoaa

/- sketch.Merge, sketch.Subtract of two sketches of one config and level; of unlike ones; of none. -/
namespace Go.Proofs.Ythancaehlijaoaa
set_option linter.unusedVariables false
open Go.RowKit

set_option maxRecDepth 20000 in
theorem GPlus_c (b c b2 c2 R W : Nat) (l l2 : List Int) (w : World) (h : GAt w b c R W l) (h2 : GAt w b2 c2 R W l2) (hI : allI l) (hI2 : allI l2) :
    Calls Try.prog 66 #[.pointer (some ⟨b, 0, none⟩), .pointer (some ⟨b2, 0, none⟩)] w (JoinPost w b c R W (plusL l l2)) := by
  go_enter Try.func66, Try.ntmps66
  go_wp2_with fail
  refine Calls.mono (allPlus_c b c b2 c2 R W l l2 w h h2 hI hI2) ?_
  rintro e w' h
  rcases h with ⟨ha, rfl, hg, hm⟩ | ⟨ha, rfl, hx⟩
  · go_wp2
    go_ret
    exact .inl ⟨ha, rfl, hg, hm⟩
  · go_wp2
    go_ret
    exact .inr ⟨ha, rfl, hx⟩
set_option maxRecDepth 20000 in
theorem GMinus_c (b c b2 c2 R W : Nat) (l l2 : List Int) (w : World) (h : GAt w b c R W l) (h2 : GAt w b2 c2 R W l2) (hI : allI l) (hI2 : allI l2) :
    Calls Try.prog 80 #[.pointer (some ⟨b, 0, none⟩), .pointer (some ⟨b2, 0, none⟩)] w (JoinPost w b c R W (minusL l l2)) := by
  go_enter Try.func80, Try.ntmps80
  go_wp2_with fail
  refine Calls.mono (allMinus_c b c b2 c2 R W l l2 w h h2 hI hI2) ?_
  rintro e w' h
  rcases h with ⟨ha, rfl, hg, hm⟩ | ⟨ha, rfl, hx⟩
  · go_wp2
    go_ret
    exact .inl ⟨ha, rfl, hg, hm⟩
  · go_wp2
    go_ret
    exact .inr ⟨ha, rfl, hx⟩
def alikeB (C : Cfg) (lv : Int) (C2 : Cfg) (lv2 : Int) : Prop := C2.bits = C.bits ∧ C2.rows = C.rows ∧ C2.width = C.width ∧ C2.mode = C.mode ∧ C2.seed = C.seed ∧ lv2 = lv
set_option maxRecDepth 20000 in
set_option maxHeartbeats 2000000 in
theorem alike_yes (s b c s2 b2 c2 : Nat) (C : Cfg) (lv : Int) (R W : Nat) (l l2 : List Int) (w : World) (h : SAt w s b c C lv R W l) (h2 : SAt w s2 b2 c2 C lv R W l2) :
    Calls Try.prog 65 #[.pointer (some ⟨s, 0, none⟩), .pointer (some ⟨s2, 0, none⟩)] w fun e w' => e = .returned (.bool true) ∧ Ext w w' := by
  have c1 := (cell_of h.ex 1).trans rfl
  have c2 := (cell_of h.ex 2).trans rfl
  have c3 := (cell_of h.ex 3).trans rfl
  have c4 := (cell_of h.ex 4).trans rfl
  have c5 := (cell_of h.ex 5).trans rfl
  have c6 := (cell_of h.ex 6).trans rfl
  have d1 := (cell_of h2.ex 1).trans rfl
  have d2 := (cell_of h2.ex 2).trans rfl
  have d3 := (cell_of h2.ex 3).trans rfl
  have d4 := (cell_of h2.ex 4).trans rfl
  have d5 := (cell_of h2.ex 5).trans rfl
  have d6 := (cell_of h2.ex 6).trans rfl
  have l1 := h.lts
  have l2 := h2.lts
  clear h h2
  go_enter Try.func65, Try.ntmps65
  go_wp2_with fail
  refine wp_region_after (by kernel_rfl) (by kernel_rfl) ?_
  repeat (go_big_quiet_step (fail))
  refine wpQuiet_nil ?_
  rintro _ ⟨xx, rfl⟩
  obtain ⟨w1, hb1⟩ := xx
  try dsimp only
  go_wp2
  go_ret
  exact ⟨rfl, hb1⟩
theorem alike_nil (s : Nat) (w : World) :
    Calls Try.prog 65 #[.pointer (some ⟨s, 0, none⟩), .pointer none] w fun e w' => e = .returned (.bool false) ∧ Ext w w' := by
  go_enter Try.func65, Try.ntmps65
  go_wp2_with fail
  refine wp_region_after (by kernel_rfl) (by kernel_rfl) ?_
  repeat (go_big_quiet_step (fail))
  refine wpQuiet_nil ?_
  rintro _ ⟨xx, rfl⟩
  obtain ⟨w1, hb1⟩ := xx
  try dsimp only
  go_wp2
  go_ret
  exact ⟨rfl, hb1⟩
/-- Where two configs, or levels, part first. -/
inductive PartsAt (C2 : Cfg) (lv2 : Int) (C : Cfg) (lv : Int) : Prop
  | p0 (h : (C2.bits == C.bits) = false)
  | p1 (h0 : (C2.bits == C.bits) = true) (h : (C2.rows == C.rows) = false)
  | p2 (h0 : (C2.bits == C.bits) = true) (h1 : (C2.rows == C.rows) = true) (h : (C2.width == C.width) = false)
  | p3 (h0 : (C2.bits == C.bits) = true) (h1 : (C2.rows == C.rows) = true) (h2 : (C2.width == C.width) = true) (h : (C2.mode == C.mode) = false)
  | p4 (h0 : (C2.bits == C.bits) = true) (h1 : (C2.rows == C.rows) = true) (h2 : (C2.width == C.width) = true) (h3 : (C2.mode == C.mode) = true) (h : (C2.seed == C.seed) = false)
  | p5 (h0 : (C2.bits == C.bits) = true) (h1 : (C2.rows == C.rows) = true) (h2 : (C2.width == C.width) = true) (h3 : (C2.mode == C.mode) = true) (h4 : (C2.seed == C.seed) = true) (h : (lv2 == lv) = false)
theorem parts_or (C2 : Cfg) (lv2 : Int) (C : Cfg) (lv : Int) : (C2 = C ∧ lv2 = lv) ∨ PartsAt C2 lv2 C lv := by
  cases h0 : C2.bits == C.bits with
  | false => exact .inr (.p0 h0)
  | true =>
    cases h1 : C2.rows == C.rows with
    | false => exact .inr (.p1 h0 h1)
    | true =>
      cases h2 : C2.width == C.width with
      | false => exact .inr (.p2 h0 h1 h2)
      | true =>
        cases h3 : C2.mode == C.mode with
        | false => exact .inr (.p3 h0 h1 h2 h3)
        | true =>
          cases h4 : C2.seed == C.seed with
          | false => exact .inr (.p4 h0 h1 h2 h3 h4)
          | true =>
            cases h5 : lv2 == lv with
            | false => exact .inr (.p5 h0 h1 h2 h3 h4 h5)
            | true =>
              refine .inl ⟨?_, by simpa using h5⟩
              cases C2; cases C
              simp only [beq_iff_eq] at h0 h1 h2 h3 h4
              simp [h0, h1, h2, h3, h4]
set_option maxRecDepth 20000 in
set_option maxHeartbeats 4000000 in
theorem alike_no (s b c s2 b2 c2 : Nat) (C C2 : Cfg) (lv lv2 : Int) (R W R2 W2 : Nat) (l l2 : List Int) (w : World) (h : SAt w s b c C lv R W l) (h2 : SAt w s2 b2 c2 C2 lv2 R2 W2 l2) (hp : PartsAt C2 lv2 C lv) :
    Calls Try.prog 65 #[.pointer (some ⟨s, 0, none⟩), .pointer (some ⟨s2, 0, none⟩)] w fun e w' => e = .returned (.bool false) ∧ Ext w w' := by
  have c1 := (cell_of h.ex 1).trans rfl
  have c2 := (cell_of h.ex 2).trans rfl
  have c3 := (cell_of h.ex 3).trans rfl
  have c4 := (cell_of h.ex 4).trans rfl
  have c5 := (cell_of h.ex 5).trans rfl
  have c6 := (cell_of h.ex 6).trans rfl
  have d1 := (cell_of h2.ex 1).trans rfl
  have d2 := (cell_of h2.ex 2).trans rfl
  have d3 := (cell_of h2.ex 3).trans rfl
  have d4 := (cell_of h2.ex 4).trans rfl
  have d5 := (cell_of h2.ex 5).trans rfl
  have d6 := (cell_of h2.ex 6).trans rfl
  have l1 := h.lts
  have l2 := h2.lts
  clear h h2
  rcases hp with h | ⟨h0, h⟩ | ⟨h0, h1, h⟩ | ⟨h0, h1, h2, h⟩ | ⟨h0, h1, h2, h3, h⟩ | ⟨h0, h1, h2, h3, h4, h⟩
  all_goals
    go_enter Try.func65, Try.ntmps65
    go_wp2_with fail
    refine wp_region_after (by kernel_rfl) (by kernel_rfl) ?_
    repeat (go_big_quiet_step (fail))
    refine wpQuiet_nil ?_
    rintro _ ⟨xx, rfl⟩
    obtain ⟨w1, hb1⟩ := xx
    try dsimp only
    go_wp2
    go_ret
    exact ⟨rfl, hb1⟩
def MergePost (w : World) (s b c : Nat) (C : Cfg) (lv : Int) (R W : Nat) (m : List Int) (e : Ending) (w' : World) : Prop :=
  (allI m ∧ e = .returned (.int .i64 0) ∧ SAt w' s b c C lv R W m ∧ Mod (fun k => k = c) w w') ∨ (¬ allI m ∧ e = .returned (.int .i64 4) ∧ Ext w w')
theorem SAt.putg {w w' : World} {s b c : Nat} {C : Cfg} {lv : Int} {R W : Nat} {l m : List Int} (h : SAt w s b c C lv R W l) (hg : GAt w' b c R W m) (hm : Mod (fun k => k = c) w w') (hi : allI m) : SAt w' s b c C lv R W m :=
  ⟨by rw [hm.block s h.lts h.nes]; exact h.ex, hg, h.ok, h.lo, h.hi, h.hr, h.hw, hi⟩
theorem join_ret {w w' : World} {b c R W : Nat} {m : List Int} {e : Ending} (h : JoinPost w b c R W m e w') : ∃ z, e = .returned (.int .i64 z) ∧ ((z = 0 ∧ allI m ∧ GAt w' b c R W m ∧ Mod (fun k => k = c) w w') ∨ (z = 4 ∧ ¬ allI m ∧ Ext w w')) := by
  rcases h with ⟨ha, rfl, hg, hm⟩ | ⟨ha, rfl, hx⟩
  · exact ⟨_, rfl, .inl ⟨rfl, ha, hg, hm⟩⟩
  · exact ⟨_, rfl, .inr ⟨rfl, ha, hx⟩⟩
set_option maxRecDepth 20000 in
set_option maxHeartbeats 4000000 in
theorem SMerge_c (s b c s2 b2 c2 : Nat) (C : Cfg) (lv : Int) (R W : Nat) (l l2 : List Int) (w : World) (h : SAt w s b c C lv R W l) (h2 : SAt w s2 b2 c2 C lv R W l2) :
    Calls Try.prog 29 #[.pointer (some ⟨s, 0, none⟩), .pointer (some ⟨s2, 0, none⟩)] w (MergePost w s b c C lv R W (plusL l l2)) := by
  have HH := Lib.hid h
  go_enter Try.func29, Try.ntmps29
  go_wp2_with fail
  refine Calls.mono (alike_yes s b c s2 b2 c2 C lv R W l l2 w h h2) ?_
  rintro e w1 ⟨rfl, hx1⟩
  have h' := h.ext hx1
  have h2' := h2.ext hx1
  have c0 := (cell_of h'.ex 0).trans rfl
  have d0 := (cell_of h2'.ex 0).trans rfl
  have l1 := h'.lts
  have l2' := h2'.lts
  clear h h2
  go_wp2_with fail
  have hC0 := af_drew w1
  have hG1 := h'.g.ext (Below.drew (Ext.refl w1))
  have hG2 := h2'.g.ext (Below.drew (Ext.refl w1))
  refine pi_start (fun w' => ∃ x : After w1, w' = x.w) [10] (by kernel_rfl) ?_
  refine pi_t 0 rfl (by kernel_rfl) (by kernel_rfl) (fun _ _ _ _ h => h) (fun K hK => ?_)
  go_big_quiet_op
  refine hK _ ?_
  clear hK K
  refine pi_t 1 rfl (by kernel_rfl) (by kernel_rfl) (fun _ _ _ _ h => h) (fun K hK => ?_)
  go_big_quiet_op
  refine hK _ ?_
  clear hK K
  refine pi_t 2 rfl (by kernel_rfl) (by kernel_rfl) (fun _ _ _ _ h => h) (fun K hK => ?_)
  go_big_quiet_op
  refine hK _ ?_
  clear hK K
  refine pi_t 3 rfl (by kernel_rfl) (by kernel_rfl) (fun _ _ _ _ h => h) (fun K hK => ?_)
  go_big_quiet_op
  refine hK _ ?_
  clear hK K
  refine pi_c 4 (by assumption) rfl (by kernel_rfl) (by kernel_rfl) (fun _ _ _ _ h => h) (fun K hK => ?_)
  go_big_quiet_op
  refine hK _ ?_
  clear hK K
  refine pi_t 5 rfl (by kernel_rfl) (by kernel_rfl) (fun _ _ _ _ h => h) (fun K hK => ?_)
  go_big_quiet_op
  refine hK _ ?_
  clear hK K
  refine pi_t 6 rfl (by kernel_rfl) (by kernel_rfl) (fun _ _ _ _ h => h) (fun K hK => ?_)
  go_big_quiet_op
  refine hK _ ?_
  clear hK K
  refine pi_t 7 rfl (by kernel_rfl) (by kernel_rfl) (fun _ _ _ _ h => h) (fun K hK => ?_)
  go_big_quiet_op
  refine hK _ ?_
  clear hK K
  refine pi_t 8 rfl (by kernel_rfl) (by kernel_rfl) (fun _ _ _ _ h => h) (fun K hK => ?_)
  go_big_quiet_op
  refine hK _ ?_
  clear hK K
  refine pi_c 9 (by assumption) rfl (by kernel_rfl) (by kernel_rfl) (fun _ _ _ _ h => h) (fun K hK => ?_)
  go_big_quiet_op
  refine hK _ ?_
  clear hK K
  refine pi_l 10 rfl (by kernel_rfl) (fun K hK => ?_)
  go_wp2_with (go_at_call 66; refine Calls.mono (GPlus_c b c b2 c2 R W l l2 _ hG1 hG2 h'.fit h2'.fit) ?_; intro e w2 hr0; obtain ⟨z, rfl, hr⟩ := join_ret hr0)
  refine hK _ _ (by simp) ?_
  clear hK K
  refine pi_t 11 rfl (by kernel_rfl) (by kernel_rfl) (fun _ _ _ _ h => h) (fun K hK => ?_)
  go_big_quiet_op
  refine hK _ ?_
  clear hK K
  refine pi_end (by kernel_rfl) ?_
  go_wp2
  go_ret
  have hx2 : Ext w w1.drew := Below.drew hx1
  rcases hr with ⟨rfl, ha, hg, hm⟩ | ⟨rfl, ha, hx⟩
  · have hm' : Mod (fun k => k = c) w w2 := (hx2.mod _).trans hm
    exact .inl ⟨ha, rfl, HH.out.putg hg hm' ha, hm'⟩
  · exact .inr ⟨ha, rfl, hx2.trans' hx⟩
set_option maxRecDepth 20000 in
set_option maxHeartbeats 4000000 in
theorem SSubtract_c (s b c s2 b2 c2 : Nat) (C : Cfg) (lv : Int) (R W : Nat) (l l2 : List Int) (w : World) (h : SAt w s b c C lv R W l) (h2 : SAt w s2 b2 c2 C lv R W l2) (hm : C.mode ≠ 2) :
    Calls Try.prog 45 #[.pointer (some ⟨s, 0, none⟩), .pointer (some ⟨s2, 0, none⟩)] w (MergePost w s b c C lv R W (minusL l l2)) := by
  have HH := Lib.hid h
  have hmb : (C.mode == 2) = false := by simpa using hm
  clear hm
  go_enter Try.func45, Try.ntmps45
  go_wp2_with fail
  refine Calls.mono (alike_yes s b c s2 b2 c2 C lv R W l l2 w h h2) ?_
  rintro e w1 ⟨rfl, hx1⟩
  have h' := h.ext hx1
  have h2' := h2.ext hx1
  have c0 := (cell_of h'.ex 0).trans rfl
  have c4 := (cell_of h'.ex 4).trans rfl
  have d0 := (cell_of h2'.ex 0).trans rfl
  have l1 := h'.lts
  have l2' := h2'.lts
  clear h h2
  go_wp2_with fail
  have hC0 := af_drew w1
  have hG1 := h'.g.ext (Below.drew (Ext.refl w1))
  have hG2 := h2'.g.ext (Below.drew (Ext.refl w1))
  refine pi_start (fun w' => ∃ x : After w1, w' = x.w) [10] (by kernel_rfl) ?_
  refine pi_t 0 rfl (by kernel_rfl) (by kernel_rfl) (fun _ _ _ _ h => h) (fun K hK => ?_)
  go_big_quiet_op
  refine hK _ ?_
  clear hK K
  refine pi_t 1 rfl (by kernel_rfl) (by kernel_rfl) (fun _ _ _ _ h => h) (fun K hK => ?_)
  go_big_quiet_op
  refine hK _ ?_
  clear hK K
  refine pi_t 2 rfl (by kernel_rfl) (by kernel_rfl) (fun _ _ _ _ h => h) (fun K hK => ?_)
  go_big_quiet_op
  refine hK _ ?_
  clear hK K
  refine pi_t 3 rfl (by kernel_rfl) (by kernel_rfl) (fun _ _ _ _ h => h) (fun K hK => ?_)
  go_big_quiet_op
  refine hK _ ?_
  clear hK K
  refine pi_c 4 (by assumption) rfl (by kernel_rfl) (by kernel_rfl) (fun _ _ _ _ h => h) (fun K hK => ?_)
  go_big_quiet_op
  refine hK _ ?_
  clear hK K
  refine pi_t 5 rfl (by kernel_rfl) (by kernel_rfl) (fun _ _ _ _ h => h) (fun K hK => ?_)
  go_big_quiet_op
  refine hK _ ?_
  clear hK K
  refine pi_t 6 rfl (by kernel_rfl) (by kernel_rfl) (fun _ _ _ _ h => h) (fun K hK => ?_)
  go_big_quiet_op
  refine hK _ ?_
  clear hK K
  refine pi_t 7 rfl (by kernel_rfl) (by kernel_rfl) (fun _ _ _ _ h => h) (fun K hK => ?_)
  go_big_quiet_op
  refine hK _ ?_
  clear hK K
  refine pi_t 8 rfl (by kernel_rfl) (by kernel_rfl) (fun _ _ _ _ h => h) (fun K hK => ?_)
  go_big_quiet_op
  refine hK _ ?_
  clear hK K
  refine pi_c 9 (by assumption) rfl (by kernel_rfl) (by kernel_rfl) (fun _ _ _ _ h => h) (fun K hK => ?_)
  go_big_quiet_op
  refine hK _ ?_
  clear hK K
  refine pi_l 10 rfl (by kernel_rfl) (fun K hK => ?_)
  go_wp2_with (go_at_call 80; refine Calls.mono (GMinus_c b c b2 c2 R W l l2 _ hG1 hG2 h'.fit h2'.fit) ?_; intro e w2 hr0; obtain ⟨z, rfl, hr⟩ := join_ret hr0)
  refine hK _ _ (by simp) ?_
  clear hK K
  refine pi_t 11 rfl (by kernel_rfl) (by kernel_rfl) (fun _ _ _ _ h => h) (fun K hK => ?_)
  go_big_quiet_op
  refine hK _ ?_
  clear hK K
  refine pi_end (by kernel_rfl) ?_
  go_wp2
  go_ret
  have hx2 : Ext w w1.drew := Below.drew hx1
  rcases hr with ⟨rfl, ha, hg, hm⟩ | ⟨rfl, ha, hx⟩
  · have hm' : Mod (fun k => k = c) w w2 := (hx2.mod _).trans hm
    exact .inl ⟨ha, rfl, HH.out.putg hg hm' ha, hm'⟩
  · exact .inr ⟨ha, rfl, hx2.trans' hx⟩
/-- Unlike ones, or none: both are refused. -/
theorem SMerge_nil (s : Nat) (w : World) :
    Calls Try.prog 29 #[.pointer (some ⟨s, 0, none⟩), .pointer none] w fun e w' => e = .returned (.int .i64 5) ∧ Ext w w' := by
  go_enter Try.func29, Try.ntmps29
  go_wp2_with fail
  refine Calls.mono (alike_nil s w) ?_
  rintro e w1 ⟨rfl, hx1⟩
  go_wp2
  go_ret
  exact ⟨rfl, hx1⟩
theorem SSubtract_nil (s : Nat) (w : World) :
    Calls Try.prog 45 #[.pointer (some ⟨s, 0, none⟩), .pointer none] w fun e w' => e = .returned (.int .i64 5) ∧ Ext w w' := by
  go_enter Try.func45, Try.ntmps45
  go_wp2_with fail
  refine Calls.mono (alike_nil s w) ?_
  rintro e w1 ⟨rfl, hx1⟩
  go_wp2
  go_ret
  exact ⟨rfl, hx1⟩
theorem SMerge_no (s b c s2 b2 c2 : Nat) (C C2 : Cfg) (lv lv2 : Int) (R W R2 W2 : Nat) (l l2 : List Int) (w : World) (h : SAt w s b c C lv R W l) (h2 : SAt w s2 b2 c2 C2 lv2 R2 W2 l2) (hp : PartsAt C2 lv2 C lv) :
    Calls Try.prog 29 #[.pointer (some ⟨s, 0, none⟩), .pointer (some ⟨s2, 0, none⟩)] w fun e w' => e = .returned (.int .i64 5) ∧ Ext w w' := by
  go_enter Try.func29, Try.ntmps29
  go_wp2_with fail
  refine Calls.mono (alike_no s b c s2 b2 c2 C C2 lv lv2 R W R2 W2 l l2 w h h2 hp) ?_
  rintro e w1 ⟨rfl, hx1⟩
  go_wp2
  go_ret
  exact ⟨rfl, hx1⟩
theorem SSubtract_no (s b c s2 b2 c2 : Nat) (C C2 : Cfg) (lv lv2 : Int) (R W R2 W2 : Nat) (l l2 : List Int) (w : World) (h : SAt w s b c C lv R W l) (h2 : SAt w s2 b2 c2 C2 lv2 R2 W2 l2) (hp : PartsAt C2 lv2 C lv) :
    Calls Try.prog 45 #[.pointer (some ⟨s, 0, none⟩), .pointer (some ⟨s2, 0, none⟩)] w fun e w' => e = .returned (.int .i64 5) ∧ Ext w w' := by
  go_enter Try.func45, Try.ntmps45
  go_wp2_with fail
  refine Calls.mono (alike_no s b c s2 b2 c2 C C2 lv lv2 R W R2 W2 l l2 w h h2 hp) ?_
  rintro e w1 ⟨rfl, hx1⟩
  go_wp2
  go_ret
  exact ⟨rfl, hx1⟩
end Go.Proofs.Ythancaehlijaoaa

/- Plain laws: sums of cells are the cells of all updates. -/
namespace Go.Proofs.Ythancaehlijaoaa
set_option linter.unusedVariables false

theorem sumIf_append (p : Int → Bool) (a b : List (Int × Int)) : sumIf p (a ++ b) = sumIf p a + sumIf p b := by
  unfold sumIf; rw [List.map_append, lsum_append]
theorem cutP_append (C : Cfg) (lv : Int) (a b : List (Int × Int)) : cutP C lv (a ++ b) = cutP C lv a ++ cutP C lv b := by simp [cutP]
theorem list_ext_getD {a b : List Int} (hl : a.length = b.length) (h : ∀ i, i < a.length → a.getD i 0 = b.getD i 0) : a = b := by
  apply List.ext_getElem hl
  intro i h1 h2
  have := h i h1
  simpa [h1, h2] using this
theorem plusL_get {l m : List Int} {i : Nat} (h : i < l.length) : (plusL l m).getD i 0 = l.getD i 0 + m.getD i 0 := by simp [plusL, h]
theorem minusL_get {l m : List Int} {i : Nat} (h : i < l.length) : (minusL l m).getD i 0 = l.getD i 0 - m.getD i 0 := by simp [minusL, h]
theorem feed_plus (C : Cfg) (hok : C.Ok) (lv : Int) (R W : Nat) (hr : C.rows = R) (hw : C.width = W) (hm : C.mode ≠ 2) (us vs : List (Int × Int)) :
    plusL (feed C lv R W us (zs (R * W))) (feed C lv R W vs (zs (R * W))) = feed C lv R W (us ++ vs) (zs (R * W)) := by
  have hW : 0 < W := by have := hok.w1; omega
  apply list_ext_getD
  · rw [plusL_len, feed_len, feed_len]
  · intro i hi
    rw [plusL_len] at hi
    rw [plusL_get hi]
    rw [feed_len, zs_len] at hi
    have h1 : i / W < R := Nat.div_lt_of_lt_mul (by rw [Nat.mul_comm]; exact hi)
    have h2 : i % W < W := Nat.mod_lt _ hW
    have e : i = i / W * W + i % W := by have := Nat.div_add_mod i W; rw [Nat.mul_comm] at this; exact this.symm
    rw [e, feed_cell C hok lv R W hr hw hm us h1 h2, feed_cell C hok lv R W hr hw hm vs h1 h2, feed_cell C hok lv R W hr hw hm (us ++ vs) h1 h2, cutP_append, sumIf_append]
theorem minus_plus {a b : List Int} (h : a.length = b.length) : minusL (plusL a b) b = a := by
  apply list_ext_getD
  · rw [minusL_len, plusL_len]
  · intro i hi
    rw [minusL_len] at hi
    rw [minusL_get hi]
    rw [plusL_len] at hi
    rw [plusL_get hi]
    omega
theorem minus_self (a : List Int) : minusL a a = zs a.length := by
  apply list_ext_getD
  · rw [minusL_len, zs_len]
  · intro i hi
    rw [minusL_len] at hi
    rw [minusL_get hi]
    simp [zs, hi]
theorem feed_fit (C : Cfg) (lv : Int) (R W : Nat) (us : List (Int × Int)) (hl : us.length ≤ 1000) : allI (feed C lv R W us (zs (R * W))) := by
  intro x hx
  have := feed_bnd C lv R W us x hx
  unfold I64
  constructor <;> omega
theorem fus_cat (us : List (Int × Int)) {k : Nat} (hk : k ≤ 60) : fus us 0 k ++ fus us k 60 = fus us 0 60 := by
  unfold fus
  rw [List.drop_zero, List.drop_zero]
  have : us.take k = (us.take 60).take k := by rw [List.take_take, Nat.min_eq_left hk]
  rw [this, List.take_append_drop]
theorem zs_fit (n : Nat) : allI (zs n) := by
  intro x hx
  simp only [zs, List.mem_replicate] at hx
  rw [hx.2]; unfold I64; omega
theorem IntsAt.mod {S : Nat → Prop} {w w' : World} {v : Value} {xs : List Int} (h : IntsAt w v xs) (hm : Mod S w w') (hne : ∀ g off n cap, v = .slice (some ⟨g, off, none⟩) n cap → ¬ S g) : IntsAt w' v xs := by
  rcases h with h | ⟨g, off, cap, h1, h2, h3⟩
  · exact .inl h
  · exact .inr ⟨g, off, cap, h1, Nat.lt_of_lt_of_le h2 hm.size, fun k hk => (mcell hm h2 (hne _ _ _ _ h1) _).trans (h3 k hk)⟩
theorem SAt.mod {S : Nat → Prop} {w w' : World} {s b c : Nat} {C : Cfg} {lv : Int} {R W : Nat} {l : List Int} (h : SAt w s b c C lv R W l) (hm : Mod S w w') (h1 : ¬ S s) (h2 : ¬ S b) (h3 : ¬ S c) : SAt w' s b c C lv R W l :=
  h.keep (hm.block s h.lts h1) (hm.block b h.g.ltb h2) (hm.block c h.g.ltc h3)
end Go.Proofs.Ythancaehlijaoaa

/- Plain law: the least of what is read in a key's columns. -/
namespace Go.Proofs.Ythancaehlijaoaa
set_option linter.unusedVariables false

theorem kth0_spec {l : List Int} {x : Int} (h : IsKth l 0 x) : x ∈ l ∧ ∀ y ∈ l, x ≤ y := by
  have hx : x ∈ l := sameN_pos (by have := h.1; have := h.2; omega)
  have hm := kth0_min h
  have hs := minL_spec l (by intro e; rw [e] at hx; cases hx)
  rw [hm] at hs
  exact hs
theorem least_of {own : Int} {f : Nat → Int} {R : Nat} {n : Int} (h : IsKth ((List.range R).map fun r => own + f r) 0 n) : n = own + leastF f R := by
  obtain ⟨h1, h2⟩ := kth0_spec h
  simp only [List.mem_map, List.mem_range] at h1 h2
  obtain ⟨r, hr, rfl⟩ := h1
  obtain ⟨j, hj, hj'⟩ := leastF_mem f R (by omega)
  have a1 := (leastF_le f R).2 r hr
  have a2 := h2 (own + f j) ⟨j, hj, rfl⟩
  omega
/-- No key of the first k updates has less than 0. -/
def plainK (C : Cfg) (LV : Int) (us : List (Int × Int)) (P : List (Int × Int)) (k : Nat) : Bool := (us.take k).all fun u => decide (0 ≤ hasP (cutK C LV u.1) P)
theorem plainK_zero (C : Cfg) (LV : Int) (us P : List (Int × Int)) : plainK C LV us P 0 = true := rfl
theorem plainK_succ (C : Cfg) (LV : Int) (us P : List (Int × Int)) {k : Nat} (hk : k < us.length) : plainK C LV us P (k + 1) = (plainK C LV us P k && decide (0 ≤ hasP (cutK C LV us[k].1) P)) := by
  unfold plainK
  rw [List.take_succ_eq_append_getElem hk, List.all_append]
  simp
theorem plainK_end (C : Cfg) (LV : Int) (us P : List (Int × Int)) {k : Nat} (h60 : k ≤ 60) (hk : k ≤ us.length) (he : ¬ (k < us.length ∧ k < 60)) : plainK C LV us P k = plainK C LV us P 60 := by
  unfold plainK
  by_cases h : k = 60
  · rw [h]
  · have : k = us.length := by omega
    rw [this, List.take_length, List.take_of_length_le (by omega)]
theorem least_nn {C : Cfg} {LV key : Int} {us : List (Int × Int)} {R : Nat} (hR : 0 < R) (h : plainK C LV us (cutP C LV (fus us 0 60)) 60 = true) : 0 ≤ leastF (fun r => othP C LV key r (cutP C LV (fus us 0 60))) R := by
  obtain ⟨r, _, hr⟩ := leastF_mem (fun r => othP C LV key r (cutP C LV (fus us 0 60))) R hR
  rw [hr]
  refine oth_nn (fun u hu => ?_)
  simp only [cutP, List.mem_map] at hu
  obtain ⟨v, hv, rfl⟩ := hu
  unfold plainK at h
  rw [List.all_eq_true] at h
  have := h v (by unfold fus at hv; simpa using hv)
  simpa using this
theorem leastF_bd (f : Nat → Int) (B : Int) (hf : ∀ r, -B ≤ f r ∧ f r ≤ B) (k : Nat) : -B ≤ leastF f k ∧ leastF f k ≤ B := by
  induction k with
  | zero => exact hf 0
  | succ k ih =>
    rw [leastF_succ]
    have := hf k
    omega
end Go.Proofs.Ythancaehlijaoaa

/- Plain laws: conservative cells lie between what a key has and the sums. -/
namespace Go.Proofs.Ythancaehlijaoaa
set_option linter.unusedVariables false

/-- The same config in the mode Linear. -/
def lin (C : Cfg) : Cfg := { C with mode := 1 }
theorem cons_cell {C : Cfg} {lv : Int} {R W : Nat} (hok : C.Ok) (hr : C.rows = R) (hw : C.width = W) (hm : C.mode = 2) {l : List Int} (hl : l.length = R * W) (key d : Int) {r a : Nat} (hrr : r < R) (ha : a < W) :
    (updL C lv R W l key d).getD (r * W + a) 0 = if (cols C lv key).getD r 0 = (a : Int) then max (l.getD (r * W + a) 0) (minL (readL W l (cols C lv key)) + d) else l.getD (r * W + a) 0 := by
  have hme := cols_meets C hok lv key hr hw
  unfold updL
  rw [decide_eq_true hm]
  show (putK W _ _ R _).getD _ 0 = _
  rw [putK_get hme hl hrr ha R (Nat.le_refl _)]
  by_cases he : (cols C lv key).getD r 0 = (a : Int)
  · rw [if_pos ⟨hrr, he⟩, if_pos he]
    have hat : at_ W (cols C lv key) r = r * W + a := by unfold at_; omega
    rw [hat]
  · rw [if_neg (fun h => he h.2), if_neg he]
theorem updL_len' (C : Cfg) (lv : Int) (R W : Nat) (l : List Int) (key d : Int) : (updL C lv R W l key d).length = l.length := by
  unfold updL
  cases decide (C.mode = 2) <;> exact putK_len _ _ _ _ _
theorem min_read {C : Cfg} {lv : Int} {R W : Nat} (hok : C.Ok) (hr : C.rows = R) (hw : C.width = W) (l : List Int) (key : Int) :
    (∃ r, r < R ∧ minL (readL W l (cols C lv key)) = l.getD (at_ W (cols C lv key) r) 0) ∧ ∀ r, r < R → minL (readL W l (cols C lv key)) ≤ l.getD (at_ W (cols C lv key) r) 0 := by
  have hme := cols_meets C hok lv key hr hw
  have hR : 0 < R := by have := hok.r1; omega
  have hlen : (readL W l (cols C lv key)).length = R := by rw [readL_len, hme.len]
  have hs := minL_spec (readL W l (cols C lv key)) (by intro e; rw [e] at hlen; simp at hlen; omega)
  constructor
  · have := hs.1
    simp only [readL, List.mem_map, List.mem_range] at this
    obtain ⟨j, hj, he⟩ := this
    rw [hme.len] at hj
    exact ⟨j, hj, he.symm⟩
  · intro r hrr
    refine hs.2 _ ?_
    simp only [readL, List.mem_map, List.mem_range]
    exact ⟨r, by rw [hme.len]; exact hrr, rfl⟩
theorem at_col {C : Cfg} {lv : Int} {R W : Nat} (hok : C.Ok) (hr : C.rows = R) (hw : C.width = W) (key : Int) {r : Nat} (hrr : r < R) :
    ∃ a, a < W ∧ at_ W (cols C lv key) r = r * W + a ∧ (cols C lv key).getD r 0 = (a : Int) := by
  have hme := cols_meets C hok lv key hr hw
  have h0 := hme.lo r hrr
  have h1 := hme.hi r hrr
  exact ⟨((cols C lv key).getD r 0).toNat, by omega, rfl, by omega⟩
theorem feed_len' (C : Cfg) (lv : Int) (R W : Nat) (us : List (Int × Int)) : (feed C lv R W us (zs (R * W))).length = R * W := by rw [feed_len, zs_len]
theorem zs_get0 (n i : Nat) : (zs n).getD i 0 = 0 := by
  unfold zs
  rw [List.getD_eq_getElem?_getD]
  rcases Nat.lt_or_ge i n with h | h
  · simp [h]
  · simp [h]
/-- Each cell of a key's columns holds not less than what it has. -/
theorem cons_low (C : Cfg) (hok : C.Ok) (lv : Int) (R W : Nat) (hr : C.rows = R) (hw : C.width = W) (hm : C.mode = 2) (us : List (Int × Int)) (key : Int) :
    ∀ r, r < R → hasP key (cutP C lv us) ≤ (feed C lv R W us (zs (R * W))).getD (at_ W (cols C lv key) r) 0 := by
  refine snoc_ind (P := fun us => ∀ r, r < R → hasP key (cutP C lv us) ≤ (feed C lv R W us (zs (R * W))).getD (at_ W (cols C lv key) r) 0) ?_ ?_ us
  · intro r hrr
    show (0 : Int) ≤ (zs (R * W)).getD _ 0
    rw [zs_get0]; exact Int.le_refl _
  · intro us u ih r hrr
    obtain ⟨a, ha, hat, hc⟩ := at_col (lv := lv) hok hr hw key hrr
    have ih' := ih r hrr
    rw [feed_snoc, cutP_snoc, hat]
    rw [hat] at ih'
    unfold hasP at ih' ⊢
    rw [sumIf_snoc]
    rw [cons_cell hok hr hw hm (feed_len' C lv R W us) _ _ hrr ha]
    obtain ⟨⟨j, hj, hj'⟩, _⟩ := min_read (lv := lv) hok hr hw (feed C lv R W us (zs (R * W))) (cutK C lv u.1)
    by_cases hk : cutK C lv u.1 = key
    · have ihj := ih j hj
      unfold hasP at ihj
      rw [hk] at hj' ⊢
      rw [if_pos hc, hj']
      simp only [BEq.rfl, cond_true]
      omega
    · have hb : (cutK C lv u.1 == key) = false := by simpa using hk
      simp only [hb, cond_false]
      by_cases he : (cols C lv (cutK C lv u.1)).getD r 0 = (a : Int)
      · rw [if_pos he]; omega
      · rw [if_neg he]; omega
/-- No cell holds more than the sum. -/
theorem cons_high (C : Cfg) (hok : C.Ok) (lv : Int) (R W : Nat) (hr : C.rows = R) (hw : C.width = W) (hm : C.mode = 2) (us : List (Int × Int)) :
    ∀ r a, r < R → a < W → (feed C lv R W us (zs (R * W))).getD (r * W + a) 0 ≤ sumIf (fun k => (cols C lv k).getD r 0 == (a : Int)) (cutP C lv us) := by
  refine snoc_ind (P := fun us => ∀ r a, r < R → a < W → (feed C lv R W us (zs (R * W))).getD (r * W + a) 0 ≤ sumIf (fun k => (cols C lv k).getD r 0 == (a : Int)) (cutP C lv us)) ?_ ?_ us
  · intro r a hrr ha
    show (zs (R * W)).getD _ 0 ≤ (0 : Int)
    rw [zs_get0]; exact Int.le_refl _
  · intro us u ih r a hrr ha
    have ih' := ih r a hrr ha
    rw [feed_snoc, cutP_snoc, sumIf_snoc, cons_cell hok hr hw hm (feed_len' C lv R W us) _ _ hrr ha]
    have hd := cutD_nn (d := u.2) hm
    by_cases he : (cols C lv (cutK C lv u.1)).getD r 0 = (a : Int)
    · have hb : ((cols C lv (cutK C lv u.1)).getD r 0 == (a : Int)) = true := by simpa using he
      have hmn := (min_read (lv := lv) hok hr hw (feed C lv R W us (zs (R * W))) (cutK C lv u.1)).2 r hrr
      have hat : at_ W (cols C lv (cutK C lv u.1)) r = r * W + a := by unfold at_; omega
      rw [hat] at hmn
      rw [if_pos he]
      simp only [hb, cond_true]
      omega
    · have hb : ((cols C lv (cutK C lv u.1)).getD r 0 == (a : Int)) = false := by simpa using he
      rw [if_neg he]
      simp only [hb, cond_false]
      omega
theorem cols_lin (C : Cfg) (lv key : Int) : cols (lin C) lv key = cols C lv key := rfl
theorem keys_lin (C : Cfg) (lv : Int) : keys (lin C) lv = keys C lv := rfl
theorem lin_ok {C : Cfg} (h : C.Ok) : (lin C).Ok := by
  obtain ⟨a1, a2, a3, a4, a5, a6, a7, a8, a9⟩ := h
  exact ⟨a1, a2, a3, a4, a5, a6, show (1:Int) ≤ 1 by decide, show (1:Int) ≤ 3 by decide, a9⟩
theorem fcfg_lin (x : Cfg) : fcfg x 1 = lin (fcfg x 2) := rfl
/-- Cut once more, cut updates are as they are. -/
theorem cutP_lin (C : Cfg) (hok : C.Ok) (lv : Int) (h0 : 0 ≤ lv) (us : List (Int × Int)) : cutP (lin C) lv (cutP C lv us) = cutP C lv us := by
  unfold cutP
  rw [List.map_map]
  apply List.map_congr_left
  intro u _
  have hk := cutK_bd C hok lv u.1 h0
  have hd := cutD_bd C.mode u.2
  show (cutK (lin C) lv (cutK C lv u.1), cutD 1 (cutD C.mode u.2)) = _
  have e1 : cutK (lin C) lv (cutK C lv u.1) = cutK C lv u.1 := Int.emod_eq_of_lt hk.1 hk.2
  have e2 : cutD 1 (cutD C.mode u.2) = cutD C.mode u.2 := by
    generalize cutD C.mode u.2 = d at *
    show d.tmod 1099511627776 = d
    rcases Int.le_total 0 d with h | h
    · exact Int.tmod_eq_of_lt h (by omega)
    · have := Int.neg_tmod (-d) 1099511627776
      rw [Int.neg_neg] at this
      rw [this, Int.tmod_eq_of_lt (by omega) (by omega), Int.neg_neg]
  rw [e1, e2]
theorem fus_full (ps : List (Int × Int)) (h : ps.length ≤ 60) : fus ps 0 60 = ps := by
  unfold fus
  rw [List.drop_zero, List.take_of_length_le h]
theorem bounds_law {C : Cfg} (hok : C.Ok) {lv : Int} (h0 : 0 ≤ lv) {R W : Nat} (hr : C.rows = R) (hw : C.width = W) (hm : C.mode = 2) (us : List (Int × Int)) {k : Nat} (hk : k ≤ 60) (key a b : Int)
    (ha : IsKth (readL W (plusL (feed C lv R W (fus us 0 k) (zs (R * W))) (feed C lv R W (fus us k 60) (zs (R * W)))) (cols C lv key)) 0 a)
    (hb : IsKth (readL W (feed (lin C) lv R W (fus (cutP C lv (fus us 0 60)) 0 60) (zs (R * W))) (cols (lin C) lv key)) 0 b) :
    hasP key (cutP C lv (fus us 0 60)) ≤ a ∧ a ≤ b := by
  have hme := cols_meets C hok lv key hr hw
  rw [fus_full _ (by rw [cutP_len]; exact fus_len us 0 60), cols_lin] at hb
  obtain ⟨a1, a2⟩ := kth0_spec ha
  obtain ⟨b1, _⟩ := kth0_spec hb
  have hpl : ∀ r, r < R → ∃ q, q < W ∧ at_ W (cols C lv key) r = r * W + q ∧ (plusL (feed C lv R W (fus us 0 k) (zs (R * W))) (feed C lv R W (fus us k 60) (zs (R * W)))).getD (r * W + q) 0 = (feed C lv R W (fus us 0 k) (zs (R * W))).getD (r * W + q) 0 + (feed C lv R W (fus us k 60) (zs (R * W))).getD (r * W + q) 0 := by
    intro r hrr
    obtain ⟨q, hq, hat, _⟩ := at_col (lv := lv) hok hr hw key hrr
    exact ⟨q, hq, hat, plusL_get (by rw [feed_len']; exact idx_lt hrr hq)⟩
  simp only [readL, List.mem_map, List.mem_range, hme.len] at a1 a2 b1
  constructor
  · obtain ⟨r, hrr, rfl⟩ := a1
    obtain ⟨q, hq, hat, hp⟩ := hpl r hrr
    have l1 := cons_low C hok lv R W hr hw hm (fus us 0 k) key r hrr
    have l2 := cons_low C hok lv R W hr hw hm (fus us k 60) key r hrr
    rw [hat] at l1 l2 ⊢
    rw [hp, ← fus_cat us hk, cutP_append]
    unfold hasP at *
    rw [sumIf_append]
    omega
  · obtain ⟨r, hrr, rfl⟩ := b1
    obtain ⟨q, hq, hat, hp⟩ := hpl r hrr
    have hle := a2 _ ⟨r, hrr, rfl⟩
    have u1 := cons_high C hok lv R W hr hw hm (fus us 0 k) r q hrr hq
    have u2 := cons_high C hok lv R W hr hw hm (fus us k 60) r q hrr hq
    have fc := feed_cell (lin C) (lin_ok hok) lv R W hr hw (show (1:Int) ≠ 2 by decide) (cutP C lv (fus us 0 60)) hrr hq
    rw [cutP_lin C hok lv h0, ← fus_cat us hk, cutP_append, sumIf_append] at fc
    rw [hat] at hle ⊢
    rw [hp] at hle
    rw [← fus_cat us hk, cutP_append, fc]
    have e : ∀ r, (fun k => (cols (lin C) lv k).getD r 0 == (q : Int)) = (fun k => (cols C lv k).getD r 0 == (q : Int)) := fun _ => rfl
    rw [e]
    omega
end Go.Proofs.Ythancaehlijaoaa

/- A slice of updates that the call itself makes. -/
namespace Go.Proofs.Ythancaehlijaoaa
set_option linter.unusedVariables false
open Go.RowKit

def updV (ps : List (Int × Int)) : List Value := ps.flatMap fun u => [.int .u64 u.1, .int .i64 u.2]
theorem updV_len (ps : List (Int × Int)) : (updV ps).length = ps.length * 2 := by
  induction ps with
  | nil => rfl
  | cons u ps ih =>
    have : updV (u :: ps) = .int .u64 u.1 :: .int .i64 u.2 :: updV ps := rfl
    rw [this, List.length_cons, List.length_cons, List.length_cons, ih]; omega
theorem updV_append (a b : List (Int × Int)) : updV (a ++ b) = updV a ++ updV b := by simp [updV]
theorem updV_at {ps : List (Int × Int)} : ∀ {k : Nat} (h : k < ps.length), (updV ps)[k * 2]? = some (.int .u64 (ps.getD k (0, 0)).1) ∧ (updV ps)[k * 2 + 1]? = some (.int .i64 (ps.getD k (0, 0)).2) := by
  induction ps with
  | nil => intro k h; simp at h
  | cons u ps ih =>
    intro k h
    have e : updV (u :: ps) = .int .u64 u.1 :: .int .i64 u.2 :: updV ps := rfl
    rw [e]
    cases k with
    | zero => exact ⟨rfl, rfl⟩
    | succ k =>
      have := ih (k := k) (by simpa using h)
      rw [show (k + 1) * 2 = k * 2 + 1 + 1 by omega]
      simp only [List.getElem?_cons_succ, List.getD_cons_succ]
      exact this
theorem UpsAt.of_row {w : World} {base : Nat} {e : TypeId} {v : Value} {n : Nat} {ps : List (Int × Int)} (h : w.ownsRow base e 2 v n (updV ps)) : UpsAt w v ps := by
  obtain ⟨h1, h2⟩ := h
  have hn : n = ps.length := by rw [updV_len] at h1; omega
  subst hn
  rcases h2 with ⟨h2, h3⟩ | ⟨g, cap, cur, rfl, _, hh, hc, _, hs, ht⟩
  · refine .inl ⟨⟨_, h2⟩, ?_⟩
    exact List.length_eq_zero_iff.1 h3
  · refine .inr ⟨g, 0, cap, rfl, lt_of hh, fun k hk => ?_⟩
    obtain ⟨a1, a2⟩ := updV_at hk
    rw [← ht] at a1 a2
    rw [List.getElem?_take_of_lt (by omega)] at a1 a2
    simp only [Array.getElem?_toList] at a1 a2
    rw [cell_of hh, cell_of hh, Nat.zero_add]
    exact ⟨a1, a2⟩
section
variable {P : Program}
/-- 's = append(s, u)', u an update, s a row of the call's own. -/
theorem wpList_appu (W : World) {ops : Array Oper} {rest : List Oper} {o : Oper} {a : Act} {Q : Exit → Act → World → Prop} (u : Int × Int) (l : List (Int × Int)) (v : Value) (base : Nat) (e e' : TypeId) (hown : W.ownsRow base e 2 v l.length (updV l)) (t : TypeId)
    (hgd : o.guard = none) (s y : Operand) (ho : o.op = .call { callee := .builtin .append, args := #[s, y], argTypes := #[t, t] })
    (i0 : TypeInfo) (z : Value) (hi : P.info? e = some i0) (hz0 : i0.zero = some z) (hz1 : i0.size = 2) (hz2 : i0.bytes = 16) (hzs : z.cells.size = 2) (ht : P.underlying t = some (.slice e))
    (hs : a.eval s = v) (hx : a.eval y = .slice (some ⟨W.heap.size, 0, none⟩) 1 1)
    (hl : l.length ≤ 1000000000) (hbase : base ≤ W.heap.size)
    (h : ∀ v' w', w'.ownsRow base e 2 v' (l ++ [u]).length (updV (l ++ [u])) → (W.alloc (.cells #[.int .u64 u.1, .int .i64 u.2] e')).grownBy w' v.ownBlock → (v'.ownBlock = v.ownBlock ∨ v'.ownBlock = some (W.heap.size + 1)) → wpList P ops Q rest (a.put o.dst v') w') :
    wpList P ops Q (o :: rest) a (W.alloc (.cells #[.int .u64 u.1, .int .i64 u.2] e')) := by
  refine wpList_append_sep _ hgd s y t ho base e i0 z 2 16 ht hi hz0 hz1 hz2 hzs (by decide) v l.length (updV l) hs (hown.alloc _) ⟨W.heap.size, 0, none⟩ 1 1 [.int .u64 u.1, .int .i64 u.2] hx rfl ?_ ?_ (by unfold maxLen; omega) (by omega) (by rw [size_alloc]; omega) ?_
  · intro j v hv
    have hj : j = 0 ∨ j = 1 := by
      have := (List.getElem?_eq_some_iff.1 hv).1
      simp at this; omega
    rcases hj with rfl | rfl
    · rw [show (⟨W.heap.size, 0, none⟩ : Addr).add 0 = ⟨W.heap.size, 0, none⟩ by simp [Addr.add], cell_of (heap_at W _ rfl) 0]
      exact hv
    · rw [show (⟨W.heap.size, 0, none⟩ : Addr).add 1 = ⟨W.heap.size, 1, none⟩ by simp [Addr.add], cell_of (heap_at W _ rfl) 1]
      exact hv
  · intro x hx
    simp at hx
    rcases hx with rfl | rfl <;> rfl
  · intro v' w' h1 h2 h3
    refine h v' w' ?_ h2 ?_
    · rw [List.length_append, updV_append]
      exact h1
    · rw [size_alloc] at h3; exact h3
end
end Go.Proofs.Ythancaehlijaoaa

/- append of a whole row of numbers to a row of the call's own. -/
namespace Go.Proofs.Ythancaehlijaoaa
set_option linter.unusedVariables false
open Go.RowKit
section
variable {P : Program}
theorem ints_app (a b : List Int) : ints (a ++ b) = ints a ++ ints b := by simp [ints]
theorem wpList_appl (W : World) {ops : Array Oper} {rest : List Oper} {o : Oper} {a : Act} {Q : Exit → Act → World → Prop} (l xs : List Int) (v : Value) (base : Nat) (e : TypeId) (hown : W.ownsRow base e 1 v xs.length (ints xs)) (t : TypeId)
    (hgd : o.guard = none) (s y : Operand) (ho : o.op = .call { callee := .builtin .append, args := #[s, y], argTypes := #[t, t] })
    (hinfo : (P.info? e).map (fun i => (i.zero, i.size, i.bytes)) = some (some (.int .i64 0), 1, 8)) (ht : P.underlying t = some (.slice e))
    (hs : a.eval s = v) (g off m c : Nat) (hx : a.eval y = .slice (some ⟨g, off, none⟩) m c) (hm : m = l.length) (hc : ∀ k, k < m → W.cell? ⟨g, off + k, none⟩ = some (.int .i64 (l.getD k 0)))
    (hl : xs.length + m ≤ 1000000000000) (hbase : base ≤ W.heap.size)
    (h : ∀ v' w', w'.ownsRow base e 1 v' (xs ++ l).length (ints (xs ++ l)) → W.grownBy w' v.ownBlock → (v'.ownBlock = v.ownBlock ∨ v'.ownBlock = some W.heap.size) → wpList P ops Q rest (a.put o.dst v') w') :
    wpList P ops Q (o :: rest) a W := by
  obtain ⟨i0, hi, hz0, hz1, hz2⟩ := info_parts hinfo
  subst hm
  refine wpList_append_sep _ hgd s y t ho base e i0 (.int .i64 0) 1 8 ht hi hz0 hz1 hz2 rfl (by decide) v xs.length (ints xs) hs hown ⟨g, off, none⟩ l.length c (ints l) hx (by rw [ints_len]; omega) ?_ ?_ (by unfold maxLen; omega) (by omega) hbase ?_
  · intro j u hu
    have hj : j < l.length := by
      have := (List.getElem?_eq_some_iff.1 hu).1
      rwa [ints_len] at this
    rw [show (⟨g, off, none⟩ : Addr).add j = ⟨g, off + j, none⟩ by simp [Addr.add], hc j hj, ← hu]
    simp [ints, hj]
  · intro u hu
    simp only [ints, List.mem_map] at hu
    obtain ⟨x, _, rfl⟩ := hu
    rfl
  · intro v' w' h1 h2 h3
    refine h v' w' ?_ h2 h3
    rw [List.length_append, ints_app]
    exact h1
end
theorem own_blk {w : World} {base n size : Nat} {e : TypeId} {v : Value} {xs : List Value} (h : w.ownsRow base e size v n xs) {k : Nat} (hk : v.ownBlock = some k) : base ≤ k := by
  rcases h.2 with ⟨rfl, _⟩ | ⟨g, cap, cur, rfl, hg, _⟩
  · cases hk
  · cases hk; exact hg
theorem ext_grown0 {w wr w1 : World} {row : Option Nat} (he : Ext w wr) (h : wr.grownBy w1 row) (hr : ∀ k, row = some k → w.heap.size ≤ k) : Ext w w1 := he.grown h he.size hr
/-- A slice of numbers that came in. -/
def SlArg (w : World) (p : Option Addr) (n cap : Nat) (l : List Int) : Prop :=
  n = l.length ∧ n ≤ cap ∧ ((n = 0 ∧ (p = none → cap = 0)) ∨ ∃ g off, p = some ⟨g, off, none⟩ ∧ g < w.heap.size ∧ ∀ k, k < n → w.cell? ⟨g, off + k, none⟩ = some (.int .i64 (l.getD k 0)))
end Go.Proofs.Ythancaehlijaoaa

/- gaugerlaw10.SketchBounds, walked. -/
namespace Go.Proofs.Ythancaehlijaoaa
set_option linter.unusedVariables false
open Go.RowKit

theorem plus_fit (C : Cfg) (lv : Int) (R W : Nat) (us vs : List (Int × Int)) (h1 : us.length ≤ 1000) (h2 : vs.length ≤ 1000) : allI (plusL (feed C lv R W us (zs (R * W))) (feed C lv R W vs (zs (R * W)))) := by
  intro x hx
  simp only [plusL, List.mem_map, List.mem_range] at hx
  obtain ⟨k, _, rfl⟩ := hx
  have a := (feed_bnd C lv R W us).getD (by omega) k
  have b := (feed_bnd C lv R W vs).getD (by omega) k
  unfold I64
  constructor <;> omega
theorem own_setc {w : World} {base n size : Nat} {e : TypeId} {v : Value} {xs : List Value} (h : w.ownsRow base e size v n xs) {b : Nat} (hb : b < base) (o : Nat) (u : Value) : (w.setCell ⟨b, o, none⟩ u).ownsRow base e size v n xs := by
  refine ⟨h.1, ?_⟩
  rcases h.2 with h' | ⟨g, cap, cur, hv, hg, hh, hr⟩
  · exact .inl h'
  · exact .inr ⟨g, cap, cur, hv, hg, (setCell_other _ _ (by omega)).trans hh, hr⟩
theorem own_sl {w : World} {base n size : Nat} {e : TypeId} {v : Value} {xs : List Value} (h : w.ownsRow base e size v n xs) : ∃ p c, v = .slice p n c := by
  rcases h.2 with ⟨rfl, rfl⟩ | ⟨g, cap, cur, rfl, _⟩
  · exact ⟨none, 0, rfl⟩
  · exact ⟨_, _, rfl⟩
theorem own_ext {w w' : World} {base n size : Nat} {e : TypeId} {v : Value} {xs : List Value} (h : w.ownsRow base e size v n xs) (hE : Ext w w') : w'.ownsRow base e size v n xs := by
  refine ⟨h.1, ?_⟩
  rcases h.2 with h' | ⟨g, cap, cur, hv, hg, hh, hr⟩
  · exact .inl h'
  · exact .inr ⟨g, cap, cur, hv, hg, hE.keep hh, hr⟩
/-- A world in which what W has is as it was, but for the blocks in S. -/
structure AftS (S : Nat → Prop) (W : World) where
  w : World
  h : Mod S W w
instance (S : Nat → Prop) (W : World) : Nonempty (AftS S W) := ⟨⟨W, Mod.refl _ W⟩⟩
@[go_sem] theorem AftS.cell {S : Nat → Prop} {W : World} (x : AftS S W) {b o : Nat} (h : b < W.heap.size) (hn : ¬ S b) : x.w.cell? ⟨b, o, none⟩ = W.cell? ⟨b, o, none⟩ := mcell x.h h hn o
theorem afs_drew (S : Nat → Prop) (W : World) : ∃ x : AftS S W, W.drew = x.w := ⟨⟨_, Ext.mod _ (Below.drew (Ext.refl W))⟩, rfl⟩
theorem afs_step {S : Nat → Prop} {W w w' : World} (h : ∃ x : AftS S W, w = x.w) (he : Ext w w') : ∃ x : AftS S W, w' = x.w := by
  obtain ⟨x, rfl⟩ := h
  exact ⟨⟨w', x.h.trans (he.mod _)⟩, rfl⟩
theorem mod_grown {S : Nat → Prop} {W w w' : World} {o : Obj} {row : Option Nat} (h : Mod S W w) (hg : (w.alloc o).grownBy w' row) (hr : ∀ i, row = some i → S i) : Mod S W w' := by
  refine ⟨hg.os.trans h.os, hg.tape.trans h.tape, hg.output.trans h.output, Nat.le_trans h.size (Nat.le_trans (by rw [size_alloc]; exact Nat.le_succ _) hg.size), fun k hk hn => ?_⟩
  exact (grown_old hg (Nat.lt_of_lt_of_le hk h.size) (fun e => hn (hr k e.symm))).trans (h.block k hk hn)
theorem afs_grown {S : Nat → Prop} {W w w' : World} {o : Obj} {row : Option Nat} (h : ∃ x : AftS S W, w = x.w) (hg : (w.alloc o).grownBy w' row) (hr : ∀ i, row = some i → S i) : ∃ x : AftS S W, w' = x.w := by
  obtain ⟨x, rfl⟩ := h
  exact ⟨⟨w', mod_grown x.h hg hr⟩, rfl⟩
theorem ups_ok_cut (C : Cfg) (hok : C.Ok) (lv : Int) (h0 : 0 ≤ lv) (us : List (Int × Int)) : UpsOk (cutP C lv us) := by
  intro u hu
  simp only [cutP, List.mem_map] at hu
  obtain ⟨p, _, rfl⟩ := hu
  have hk := cutK_bd C hok lv p.1 h0
  have hd := cutD_bd C.mode p.2
  have hb := keys_bd C hok lv h0
  refine ⟨⟨hk.1, ?_⟩, ?_⟩
  · show cutK C lv p.1 < _; omega
  · show -9223372036854775808 ≤ cutD C.mode p.2 ∧ _; omega
theorem info_upd : ∃ i z, Try.prog.info? 34 = some i ∧ i.zero = some z ∧ i.size = 2 ∧ i.bytes = 16 ∧ z.cells.size = 2 := by
  have h : (Try.prog.info? 34).map (fun i => (i.zero, i.size, i.bytes)) = some (some (.agg #[.int .u64 0, .int .i64 0]), 2, 16) := by kernel_rfl
  match hi : Try.prog.info? 34, h with
  | some i, h =>
    simp only [Option.map_some, Option.some.injEq, Prod.mk.injEq] at h
    exact ⟨i, _, rfl, h.1, h.2.1, h.2.2, rfl⟩
set_option maxRecDepth 20000 in
set_option maxHeartbeats 8000000 in
theorem BoundsL_c (x : Cfg) (hx : x.Raw) (k0 : Int) (hk0 : I64 k0) (key : Int) (hkey : U64 key) (lv : Int) (hlv : I64 lv) (us : List (Int × Int)) (hus : UpsOk us) (v : Value) (w : World) (hv : UpsAt w v us) (hul : us.length ≤ 140737488355328) :
    Calls Try.prog 7 #[.agg #[.int .i64 x.bits, .int .i64 x.rows, .int .i64 x.width, .int .i64 x.mode, .int .u64 x.seed, .int .i64 lv, v], .int .i64 k0, .int .u64 key] w fun e w' => e = .returned (.bool true) ∧ Ext w w' := by
  obtain ⟨vp, vc, rfl⟩ := hv.sl
  have HV := Lib.hid hv
  clear hv
  go_enter Try.func7, Try.ntmps7
  go_wp2_with fail
  refine (shown_c _).mono ?_
  rintro e w1 ⟨rfl, hb1⟩
  have hE1 : Ext w w1 := by (repeat' (first | exact Ext.refl _ | assumption | apply Ext.allocR | apply Ext.drewR | apply Ext.drewNR | (refine Ext.trans' ?_ (by assumption))))
  have hP1 : PlayAt w1 w.heap.size x lv (.slice vp us.length vc) := (PlayAt.box x lv _ 27 rfl).ext hb1
  clear hb1
  obtain ⟨k, hk⟩ : ∃ k : Nat, k0 % 65536 % 61 = k := ⟨(k0 % 65536 % 61).toNat, (Int.toNat_of_nonneg (Int.emod_nonneg _ (by decide))).symm⟩
  have hk60 : k ≤ 60 := by have := Int.emod_lt_of_pos (k0 % 65536) (show (0 : Int) < 61 by decide); omega
  have hka := and16 k0
  have hkn := Int.emod_nonneg k0 (show (65536 : Int) ≠ 0 by decide)
  have HKK := Lib.hid hk
  clear hk
  go_upto_region 2 with (fail)
  go_cut [1] (fun s1 wx => s1 = .int .i64 (k : Int) ∧ wx = w1)
  case first =>
    go_wp2_with fail
    go_meet
    exact ⟨by rw [HKK.out], rfl⟩
  case rest =>
    obtain ⟨rfl, rfl⟩ := hcut
    clear hka hkn
    have hU1 := UpsAt.ext HV.out hE1
    have HU1 := Lib.hid hU1
    have HP1 := Lib.hid hP1
    have hok := fcfg_ok x hx.s (m := 2) (by decide) (by decide)
    obtain ⟨lb1, lb2⟩ := flv_bd x lv 2
    have hCm : (fcfg x 2).mode = 2 := rfl
    have hCL := fcfg_lin x
    have d0 := hP1.c.c0
    have d1 := hP1.c.c1
    have d2 := hP1.c.c2
    have d3 := hP1.c.c3
    have d4 := hP1.c.c4
    have d5 := hP1.c5
    have d6 := hP1.c6
    have dl := hP1.c.lt
    have hlt0 := hP1.c.lt
    clear hU1 hP1
    go_wp2_with fail
    refine Calls.mono (fed_c x hx 2 (by decide) (by decide) lv hlv us hus _ 0 k (by omega) hk60 _ (HU1.out.ext ?hx) hul) ?_
    case hx => (repeat' (first | exact Ext.refl _ | assumption | apply Ext.allocR | apply Ext.drewR | apply Ext.drewNR | (refine Ext.trans' ?_ (by assumption))))
    rintro e w2 ⟨s, b, c, rfl, hS, hs, hb, hc, hx2⟩
    have hE2 : Ext wc w2 := by (repeat' (first | exact Ext.refl _ | assumption | apply Ext.allocR | apply Ext.drewR | apply Ext.drewNR | (refine Ext.trans' ?_ (by assumption))))
    have hP2 := HP1.out.ext hE2
    clear hx2 d0 d1 d2 d3 d4 d5 d6 dl
    generalize hCe : fcfg x 2 = C at *
    generalize hLe : flv x lv = LV at *
    generalize hRe : fR x = R at *
    generalize hWe : fW x = W at *
    have HCE := Lib.hid hCe
    have HLE := Lib.hid hLe
    have HRE := Lib.hid hRe
    have HWE := Lib.hid hWe
    have HCL := Lib.hid hCL
    have HCM := Lib.hid hCm
    clear hCe hLe hRe hWe hCL hCm
    have hCb : CfgAt (w2.alloc (.cells #[.int .i64 C.bits, .int .i64 C.rows, .int .i64 C.width, .int .i64 C.mode, .int .u64 C.seed] 24)) w2.heap.size C := CfgAt.box C _ rfl
    have hEB : Ext w2 (w2.alloc (.cells #[.int .i64 C.bits, .int .i64 C.rows, .int .i64 C.width, .int .i64 C.mode, .int .u64 C.seed] 24)) := Ext.alloc' _ _
    have hsB : (w2.alloc (.cells #[.int .i64 C.bits, .int .i64 C.rows, .int .i64 C.width, .int .i64 C.mode, .int .u64 C.seed] 24)).heap.size = w2.heap.size + 1 := size_alloc _ _
    have d0 := hP2.c.c0
    have d1 := hP2.c.c1
    have d2 := hP2.c.c2
    have d3 := hP2.c.c3
    have d4 := hP2.c.c4
    have d5 := hP2.c5
    have d6 := hP2.c6
    have dl := hP2.c.lt
    go_wp2_with fail
    generalize w2.alloc (.cells #[.int .i64 C.bits, .int .i64 C.rows, .int .i64 C.width, .int .i64 C.mode, .int .u64 C.seed] 24) = wB at *
    have hSB := hS.ext hEB
    have hPB := hP2.ext hEB
    have hEwB : Ext w wB := hE1.trans' (hE2.trans' hEB)
    have hUB := HU1.out.ext (hE2.trans' hEB)
    have hlt1 := hS.lts
    have hlt2 := hS.g.ltb
    have hlt3 := hS.g.ltc
    have hsz1 := hE1.size
    have hsz2 := hE2.size
    have HSB := Lib.hid hSB
    have HPB := Lib.hid hPB
    have HUB := Lib.hid hUB
    have HCB := Lib.hid hCb
    clear hP2 hS hSB hPB hUB hCb hE2 hEB HP1 HU1 d0 d1 d2 d3 d4 d5 d6 dl
    refine Calls.mono (fed_c x hx 2 (by decide) (by decide) lv hlv us hus _ k 60 hk60 (by omega) _ (HUB.out.ext ?hx) hul) ?_
    case hx => (repeat' (first | exact Ext.refl _ | assumption | apply Ext.allocR | apply Ext.drewR | apply Ext.drewNR | (refine Ext.trans' ?_ (by assumption))))
    rintro e w3 ⟨s2, b2, c2, rfl, hS2, hs2, hb2, hc2, hx3⟩
    rw [HCE.out, HLE.out, HRE.out, HWE.out] at hS2
    rw [HCE.out, HLE.out]
    have hE3 : Ext wB w3 := by (repeat' (first | exact Ext.refl _ | assumption | apply Ext.allocR | apply Ext.drewR | apply Ext.drewNR | (refine Ext.trans' ?_ (by assumption))))
    have hPc := HPB.out.ext hE3
    have hlt4 := hS2.lts
    have hlt5 := hS2.g.ltb
    have hlt6 := hS2.g.ltc
    have hsz3 := hE3.size
    have HS2 := Lib.hid hS2
    clear hx3 hS2
    have d0 := hPc.c.c0
    have d1 := hPc.c.c1
    have d2 := hPc.c.c2
    have d3 := hPc.c.c3
    have d4 := hPc.c.c4
    have d5 := hPc.c5
    have d6 := hPc.c6
    have dl := hPc.c.lt
    have hEC : Ext w3 (w3.alloc (.cells #[.int .i64 C.bits, .int .i64 C.rows, .int .i64 C.width, .int .i64 C.mode, .int .u64 C.seed] 24)) := Ext.alloc' _ _
    have hsD3 : (w3.alloc (.cells #[.int .i64 C.bits, .int .i64 C.rows, .int .i64 C.width, .int .i64 C.mode, .int .u64 C.seed] 24)).heap.size = w3.heap.size + 1 := size_alloc _ _
    have HSD3 := Lib.hid hsD3
    clear hPc hsD3
    go_wp2_with fail
    generalize w3.alloc (.cells #[.int .i64 C.bits, .int .i64 C.rows, .int .i64 C.width, .int .i64 C.mode, .int .u64 C.seed] 24) = wD at *
    have hED : Ext wB wD := hE3.trans' hEC
    have hS2D := HS2.out.ext hEC
    have hsD := hED.size
    have hsC := hEC.size
    have HS2D := Lib.hid hS2D
    clear hS2D HS2 d0 d1 d2 d3 d4 d5 d6 dl hEC hE3
    go_loopw [15] (fun u15 wr => ∃ (i : Nat) (z : Value), i ≤ 60 ∧ i ≤ us.length ∧ u15 = .int .i64 i ∧ Ext wD wr ∧ wr.heap[w3.heap.size + 1]? = some (.cells #[.int .i64 x.bits, .int .i64 x.rows, .int .i64 x.width, .int .i64 x.mode, .int .u64 x.seed, .int .i64 lv, z] 27 (0, 0)) ∧ wr.ownsRow (w3.heap.size + 2) 34 2 z (cutP C LV (fus us 0 i)).length (updV (cutP C LV (fus us 0 i)))) (fun u15 _ => 60 - (intOf u15).toNat)
    case atStart =>
      exact ⟨0, .slice none 0 0, Nat.zero_le _, Nat.zero_le _, rfl, Ext.alloc' _ _, heap_at _ _ HSD3.out.symm, by rw [fus_self]; exact ⟨rfl, .inl ⟨rfl, rfl⟩⟩⟩
    case round =>
      obtain ⟨i, z, hi60, hil, rfl, hE, hpb, hrow⟩ := hrel
      have hP := HPB.out.ext (hED.trans' hE)
      have q6 := hP.c6
      have ql := hP.c.lt
      have hC := HCB.out.ext (hED.trans' hE)
      have l1 := hC.lt
      by_cases hgo : i < us.length ∧ i < 60
      · obtain ⟨hg1, hg2⟩ := hgo
        obtain ⟨ug, off, rfl, hul0, e0', e1'⟩ := HUB.out.one hg1
        have e0 := ((bcell (hED.trans' hE)).1 ug _ hul0).trans e0'
        have e1 := ((bcell (hED.trans' hE)).1 ug _ hul0).trans e1'
        have hulr : ug < wr.heap.size := Nat.lt_of_lt_of_le hul0 (hED.trans' hE).size
        have hu := hus _ (List.getElem_mem hg1)
        have hsn : cutP C LV (fus us 0 (i + 1)) = cutP C LV (fus us 0 i) ++ [(cutK C LV us[i].1, cutD C.mode us[i].2)] := by
          rw [fus_snoc us (Nat.zero_le i) hg1, cutP_snoc]
          have : us.getD i (0, 0) = us[i] := by simp [hg1]
          rw [this]
        have hln : (cutP C LV (fus us 0 i)).length ≤ 60 := by rw [cutP_len]; exact Nat.le_trans (fus_len us 0 i) hi60
        have c0 := hC.c0
        have c1 := hC.c1
        have c2 := hC.c2
        have c3 := hC.c3
        have c4 := hC.c4
        have p6 := (cell_of hpb 6).trans rfl
        have pl := lt_of hpb
        generalize us[i] = uu at *
        obtain ⟨uk, ud⟩ := uu
        generalize cutP C LV (fus us 0 i) = PS at *
        have HSN := Lib.hid hsn
        have HPB' := Lib.hid hpb
        have HROW := Lib.hid hrow
        have hzs := hE.size
        obtain ⟨S, hSS⟩ : ∃ S : Nat → Prop, ∀ i, S i ↔ z.ownBlock = some i := ⟨_, fun _ => Iff.rfl⟩
        have hSb : ∀ i, i < w3.heap.size + 2 → ¬ S i := fun i hi h => by have := own_blk HROW.out ((hSS i).1 h); omega
        have n1 : ¬ S w.heap.size := hSb _ (by have := hEwB.size; have := HPB.out.c.lt; omega)
        have n2 : ¬ S w2.heap.size := hSb _ (by have := HCB.out.lt; omega)
        have n3 : ¬ S ug := hSb _ (by omega)
        have n4 : ¬ S (w3.heap.size + 1) := hSb _ (by omega)
        have HSS := Lib.hid hSS
        clear hsn hP hC hpb hrow e0' e1' hSb hSS
        go_wp2_with fail
        have hC0 := afs_drew S wr
        refine pi_start (fun w' => ∃ x : AftS S wr, w' = x.w) [13] (by kernel_rfl) ?_
        refine pi_t 0 rfl (by kernel_rfl) (by kernel_rfl) (fun _ _ _ _ h => h) (fun K hK => ?_)
        go_big_quiet_op
        refine hK _ ?_
        clear hK K
        refine pi_c 1 (by assumption) rfl (by kernel_rfl) (by kernel_rfl) (fun _ _ _ _ h => h) (fun K hK => ?_)
        go_big_quiet_op
        refine hK _ ?_
        clear hK K
        refine pi_c 2 (by assumption) rfl (by kernel_rfl) (by kernel_rfl) (fun _ _ _ _ h => h) (fun K hK => ?_)
        go_big_quiet_op
        refine hK _ ?_
        clear hK K
        refine pi_t 3 rfl (by kernel_rfl) (by kernel_rfl) (fun _ _ _ _ h => h) (fun K hK => ?_)
        go_big_quiet_op
        refine hK _ ?_
        clear hK K
        refine pi_t 4 rfl (by kernel_rfl) (by kernel_rfl) (fun _ _ _ _ h => h) (fun K hK => ?_)
        go_big_quiet_op
        refine hK _ ?_
        clear hK K
        refine pi_c 5 (by assumption) rfl (by kernel_rfl) (by kernel_rfl) (fun _ _ _ _ h => h) (fun K hK => ?_)
        go_big_quiet_op
        refine hK _ ?_
        clear hK K
        refine pi_t 6 rfl (by kernel_rfl) (by kernel_rfl) (fun _ _ _ _ h => h) (fun K hK => ?_)
        go_big_quiet_op
        refine hK _ ?_
        clear hK K
        refine pi_t 7 rfl (by kernel_rfl) (by kernel_rfl) (fun _ _ _ _ h => h) (fun K hK => ?_)
        go_big_quiet_op
        refine hK _ ?_
        clear hK K
        refine pi_c 8 (by assumption) rfl (by kernel_rfl) (by kernel_rfl) (fun _ _ _ _ h => h) (fun K hK => ?_)
        go_big_quiet_op
        refine hK _ ?_
        clear hK K
        refine pi_l 9 rfl (by kernel_rfl) (fun K hK => ?_)
        go_wp2_with (go_at_call 19; refine (cut_c C hok LV lb1 lb2 uk ud hu.1 hu.2 _).mono ?_; rintro e wx ⟨rfl, hx3⟩)
        refine hK _ _ (fun _ h => afs_step h hx3) ?_
        clear hK K
        refine pi_l 10 rfl (by kernel_rfl) (fun K hK => ?_)
        go_wp2
        refine hK _ _ (fun _ h => afs_step h (Ext.alloc' _ _)) ?_
        clear hK K
        have hEx : Ext wr wx := Ext.trans' (Below.drew (Ext.refl wr)) hx3
        refine pi_l 11 rfl (by kernel_rfl) (fun K hK => ?_)
        obtain ⟨i0, z0, hi0, hz0, hz1, hz2, hz3⟩ := info_upd
        have hrx : wx.ownsRow (w3.heap.size + 2) 34 2 z PS.length (updV PS) := own_ext HROW.out hEx
        go_wp2_with (at_builtin; refine wpList_appu wx (cutK C LV uk, cutD C.mode ud) PS z (w3.heap.size + 2) 34 34 hrx 25 rfl _ _ rfl i0 z0 hi0 hz0 hz1 hz2 hz3 Try.underlying25 rfl rfl ?a1 ?a2 ?_)
        case a1 => omega
        case a2 => have := hEx.size; omega
        intro z' w4 hr4 hg4 hd4
        obtain ⟨zp, zc, rfl⟩ := own_sl hr4
        have hb4 := (grown_old hg4 (j := w3.heap.size + 1) (Nat.lt_of_lt_of_le pl hEx.size) (fun e => by have := own_blk hrx e.symm; omega)).trans (hEx.keep HPB'.out)
        have hE4 : Ext wD w4 := ext_grown (hE.trans' hEx) hg4 (fun k hk => by have := own_blk hrx hk; have := HSD3.out; omega)
        have p6' := (cell_of hb4 6).trans rfl
        have f6' := frozen_of hb4 6
        have HR4 := Lib.hid hr4
        have HB4 := Lib.hid hb4
        have hm4 : Mod S wr w4 := mod_grown (hEx.mod _) hg4 (fun i hi => (HSS.out i).2 hi)
        clear hg4 hd4 hr4 hb4 hrx
        go_wp2
        refine hK _ _ (fun _ _ => ⟨⟨w4, hm4⟩, rfl⟩) ?_
        clear hK K
        refine pi_t 12 rfl (by kernel_rfl) (by kernel_rfl) (fun _ _ _ _ h => h) (fun K hK => ?_)
        go_big_quiet_op
        refine hK _ ?_
        clear hK K
        refine pi_l 13 rfl (by kernel_rfl) (fun K hK => ?_)
        go_wp2
        refine hK _ _ (by simp) ?_
        clear hK K
        refine pi_end (by kernel_rfl) ?_
        go_wp2_with fail
        go_roundw
        case rel =>
          refine ⟨i + 1, _, by omega, by omega, by go_num, hE4.setR (by have := HSD3.out; show _ ≤ w3.heap.size + 1; omega) _, setCell_same HB4.out 6 _, ?_⟩
          rw [HSN.out]
          have := own_setc HR4.out (b := w3.heap.size + 1) (by omega) 6 (.slice zp (PS.length + 1) zc)
          rwa [List.length_append]
        case measure => simp [intOf]; omega
      · have hfe := fus_end us (i := 0) (j := 60) (k := i) (by omega) (by omega) (.inr ⟨hi60, hil⟩) hgo
        rw [hfe] at hrow
        have hUz := UpsAt.of_row hrow
        have hPok := ups_ok_cut C hok LV lb1 (fus us 0 60)
        have hPl : (cutP C LV (fus us 0 60)).length ≤ 60 := by rw [cutP_len]; exact fus_len us 0 60
        obtain ⟨zp, zc, rfl⟩ := own_sl hrow
        have p0 := (cell_of hpb 0).trans rfl
        have p1 := (cell_of hpb 1).trans rfl
        have p2 := (cell_of hpb 2).trans rfl
        have p3 := (cell_of hpb 3).trans rfl
        have p4 := (cell_of hpb 4).trans rfl
        have p5 := (cell_of hpb 5).trans rfl
        have p6 := (cell_of hpb 6).trans rfl
        have pl := lt_of hpb
        have HUZ := Lib.hid hUz
        have hEr := hED.trans' hE
        clear hrow hpb hUz hfe hP hC
        go_wp2_with fail
        all_goals
          refine Calls.mono (fed_c x hx 1 (by decide) (by decide) lv hlv (cutP C LV (fus us 0 60)) hPok _ 0 60 (by omega) (by omega) _ HUZ.out (by omega)) ?_
          rintro e w5 ⟨s3, b3, c3, rfl, hS3, hs3, hb3, hc3, hx5⟩
          rw [HCL.out, HLE.out, HRE.out, HWE.out] at hS3
          rw [HCL.out, HLE.out]
          have hE5 : Ext wB w5 := hEr.trans' hx5
          have hE5D : Ext wD w5 := hE.trans' hx5
          have hS5 := HSB.out.ext hE5
          have hT5 := HS2D.out.ext hE5D
          have hpf := plus_fit C LV R W (fus us 0 k) (fus us k 60) (Nat.le_trans (fus_len us 0 k) (by omega)) (Nat.le_trans (fus_len us k 60) (by omega))
          have hs5 := hE5.size
          have hs5D := hE5D.size
          have hszr := hE.size
          have HS5 := Lib.hid hS5
          have HT5 := Lib.hid hT5
          have HS3 := Lib.hid hS3
          have HPF := Lib.hid hpf
          clear p0 p1 p2 p3 p4 p5 p6 pl q6 ql l1 hx5 hS5 hT5 hS3 hpf HUZ hPok hPl
          go_wp2_with fail
          refine Calls.mono (SMerge_c s b c s2 b2 c2 C LV R W _ _ _ (HS5.out.ext ?hx) (HT5.out.ext ?hy)) ?_
          case hx => (repeat' (first | exact Ext.refl _ | assumption | apply Ext.allocR | apply Ext.drewR | apply Ext.drewNR | (refine Ext.trans' ?_ (by assumption))))
          case hy => (repeat' (first | exact Ext.refl _ | assumption | apply Ext.allocR | apply Ext.drewR | apply Ext.drewNR | (refine Ext.trans' ?_ (by assumption))))
          intro e w6 hr
          rcases hr with ⟨ha, rfl, hS6, hM6⟩ | ⟨ha, _⟩
          rotate_left
          · exact absurd HPF.out ha
          · clear ha
            have hE6 : Ext w w6 := by
              refine Below.trans (Ext.trans' hEwB (Ext.trans' hE5 ?_)) (hM6.below (B := w.heap.size) (by simp only [size_alloc]; have := hEwB.size; omega) (fun i hi => by omega))
              (repeat' (first | exact Ext.refl _ | assumption | apply Ext.allocR | apply Ext.drewR | apply Ext.drewNR | (refine Ext.trans' ?_ (by assumption))))
            have hP6 : PlayAt w6 w.heap.size x lv (.slice vp us.length vc) := by
              refine PlayAt.mod (PlayAt.ext HPB.out (Ext.trans' hE5 ?_)) hM6 (by omega)
              (repeat' (first | exact Ext.refl _ | assumption | apply Ext.allocR | apply Ext.drewR | apply Ext.drewNR | (refine Ext.trans' ?_ (by assumption))))
            have hC6 : CfgAt w6 w2.heap.size C := by
              refine CfgAt.mod (CfgAt.ext HCB.out (Ext.trans' hE5 ?_)) hM6 (by omega)
              (repeat' (first | exact Ext.refl _ | assumption | apply Ext.allocR | apply Ext.drewR | apply Ext.drewNR | (refine Ext.trans' ?_ (by assumption))))
            have hS36 : SAt w6 s3 b3 c3 (lin C) LV R W (feed (lin C) LV R W (fus (cutP C LV (fus us 0 60)) 0 60) (zs (R * W))) := by
              refine SAt.mod (SAt.ext HS3.out ?_) hM6 (by omega) (by omega) (by omega)
              (repeat' (first | exact Ext.refl _ | assumption | apply Ext.allocR | apply Ext.drewR | apply Ext.drewNR | (refine Ext.trans' ?_ (by assumption))))
            have hU6 := UpsAt.ext HV.out hE6
            have HP6 := Lib.hid hP6
            have HC6 := Lib.hid hC6
            have HS6 := Lib.hid hS6
            have HS36 := Lib.hid hS36
            have HU6 := Lib.hid hU6
            have c0 := hC6.c0
            have c1 := hC6.c1
            have c2 := hC6.c2
            have c3 := hC6.c3
            have c4 := hC6.c4
            have cl := hC6.lt
            have hkb := keys_bd C hok LV lb1
            have hkn : keys C LV ≠ 0 := by omega
            clear hP6 hC6 hS6 hS36 hU6 hM6 HS5 HT5 HS3 HPF hE5 hE5D hEr hE hE1 hED
            go_wp2_with fail
            refine Calls.mono (KeysR_c C hok LV lb1 lb2 _) ?_
            rintro e w7 ⟨rfl, hx7⟩
            have hE7 : Ext w6 w7 := by (repeat' (first | exact Ext.refl _ | assumption | apply Ext.allocR | apply Ext.drewR | apply Ext.drewNR | (refine Ext.trans' ?_ (by assumption))))
            clear hx7 c0 c1 c2 c3 c4 cl
            have q1 := (HP6.out.ext hE7).c6
            have ql := (HP6.out.ext hE7).c.lt
            have hKK : keys C LV = keys C LV := rfl
            generalize hKN : keys C LV = KK at *
            have HKN := Lib.hid hKN
            clear hKK hKN
            have hq0 : 0 ≤ key % KK := Int.emod_nonneg _ hkn
            have hq1 : key % KK < KK := Int.emod_lt_of_pos _ (by omega)
            have hkk1 := hkey.1
            have hkk2 := hkey.2
            go_upto_region 14 with (fail)
            generalize key % KK = kq at *
            go_cut [105] (fun s105 wx => ∃ bb : Bool, s105 = .bool bb ∧ (bb = true → 0 < us.length) ∧ wx = w7)
            case first =>
              by_cases hlen : 0 < us.length
              · by_cases hev : kq % 2 = 0
                · have hev' : (kq % 2 == 0) = true := by simpa using hev
                  clear hev
                  go_wp2_with fail
                  go_meet
                  exact ⟨_, rfl, fun _ => hlen, rfl⟩
                · have hev' : (kq % 2 == 0) = false := by simpa using hev
                  clear hev
                  go_wp2_with fail
                  go_meet
                  exact ⟨_, rfl, fun _ => hlen, rfl⟩
              · first
                  | (exfalso; omega)
                  | (go_wp2_with fail
                     go_meet
                     exact ⟨false, rfl, (by simp), rfl⟩)
            case rest =>
              obtain ⟨bb, rfl, hbb, rfl⟩ := hcut
              go_upto_if 105 with (fail)
              go_cut [2] (fun s2' wx => ∃ kk : Int, 0 ≤ kk ∧ kk < KK ∧ s2' = .int .u64 kk ∧ Ext w6 wx)
              case first =>
                cases bb
                · go_wp2_with fail
                  go_meet
                  exact ⟨kq, hq0, hq1, rfl, hE7⟩
                · have hlen := hbb rfl
                  obtain ⟨ug, off, rfl, hul0, d0, d1⟩ := (UpsAt.ext HU6.out hE7).one hlen
                  have hC3' := HC6.out.ext hE7
                  have c0 := hC3'.c0
                  have c1 := hC3'.c1
                  have c2 := hC3'.c2
                  have c3 := hC3'.c3
                  have c4 := hC3'.c4
                  have cl := hC3'.lt
                  have hu := hus _ (List.getElem_mem hlen)
                  generalize us[0] = uu at *
                  obtain ⟨uk, ud⟩ := uu
                  have hr0 : 0 ≤ uk % KK := Int.emod_nonneg _ hkn
                  have hr1 : uk % KK < KK := Int.emod_lt_of_pos _ (by omega)
                  obtain ⟨hu1, hu2⟩ := hu.1
                  have kz : (KK == 0) = false := by simpa using hkn
                  rw [Nat.zero_mul, Nat.add_zero] at d0
                  clear hC3' hu hbb
                  go_wp2_with fail
                  refine wp_region_after (by kernel_rfl) (by kernel_rfl) ?_
                  repeat (go_big_quiet_step ((go_at_call 23; exact quiet_after (HKN.out ▸ KeysR_c C hok LV lb1 lb2 _))))
                  refine wpQuiet_nil ?_
                  rintro _ ⟨xx, rfl⟩
                  obtain ⟨w4, hb4⟩ := xx
                  try dsimp only
                  go_wp2_with fail
                  go_meet
                  exact ⟨uk % KK, hr0, hr1, rfl, hE7.trans' hb4⟩
              case rest =>
                obtain ⟨kk, hkk0, hkk3, rfl, hEc⟩ := hcut
                have hkk4 : kk < keys C LV := by rw [HKN.out]; exact hkk3
                have hkk5 : kk < keys (lin C) LV := hkk4
                clear q1 ql hE7 hq0 hq1 hkn hkk1 hkk2 hbb hkk3
                have hm2 : C.mode ≠ 3 := by rw [HCM.out]; decide
                have hm1 : (lin C).mode ≠ 3 := show (1 : Int) ≠ 3 by decide
                go_wp2_with fail
                refine Calls.mono (Point_c s b c C LV R W _ kk _ (HS6.out.ext ?hx) hkk0 hkk4) ?_
                case hx => (repeat' (first | exact Ext.refl _ | assumption | apply Ext.allocR | apply Ext.drewR | apply Ext.drewNR | (refine Ext.trans' ?_ (by assumption))))
                rintro e w8 ⟨pa, rfl, hpa, hx8⟩
                rw [if_neg hm2] at hpa
                have hE8 : Ext w6 w8 := by (repeat' (first | exact Ext.refl _ | assumption | apply Ext.allocR | apply Ext.drewR | apply Ext.drewNR | (refine Ext.trans' ?_ (by assumption))))
                have HPA := Lib.hid hpa
                clear hx8 hpa hEc
                go_wp2_with fail
                refine Calls.mono (Point_c s3 b3 c3 (lin C) LV R W _ kk _ (HS36.out.ext ?hx) hkk0 hkk5) ?_
                case hx => (repeat' (first | exact Ext.refl _ | assumption | apply Ext.allocR | apply Ext.drewR | apply Ext.drewNR | (refine Ext.trans' ?_ (by assumption))))
                rintro e w9 ⟨pb, rfl, hpb, hx9⟩
                rw [if_neg hm1] at hpb
                have hE9 : Ext w6 w9 := hE8.trans' (by (repeat' (first | exact Ext.refl _ | assumption | apply Ext.allocR | apply Ext.drewR | apply Ext.drewNR | (refine Ext.trans' ?_ (by assumption)))))
                have hlaw := bounds_law hok lb1 HS6.out.hr HS6.out.hw HCM.out us hk60 kk pa pb HPA.out hpb
                clear hx9 hpb HPA hE8
                have hPc := HP6.out.ext hE9
                have hCc := HC6.out.ext hE9
                have q6 := hPc.c6
                have ql := hPc.c.lt
                have c0 := hCc.c0
                have c1 := hCc.c1
                have c2 := hCc.c2
                have c3 := hCc.c3
                have c4 := hCc.c4
                have cl := hCc.lt
                have q0 := hPc.c.c0
                have q1 := hPc.c.c1
                have q2 := hPc.c.c2
                have q3 := hPc.c.c3
                have q4 := hPc.c.c4
                have q5 := hPc.c5
                have HLAW := Lib.hid hlaw
                clear hPc hCc hlaw
                go_wp2_with fail
                refine Calls.mono (has_c x lv us hus _ C hok LV lb1 lb2 kk _ (HU6.out.ext (by (repeat' (first | exact Ext.refl _ | assumption | apply Ext.allocR | apply Ext.drewR | apply Ext.drewNR | (refine Ext.trans' ?_ (by assumption)))))) hul) ?_
                rintro e w10 ⟨rfl, hx10⟩
                obtain ⟨la, lb⟩ := HLAW.out
                have hE10 : Ext w w10 := hE6.trans' (hE9.trans' (by (repeat' (first | exact Ext.refl _ | assumption | apply Ext.allocR | apply Ext.drewR | apply Ext.drewNR | (refine Ext.trans' ?_ (by assumption))))))
                generalize hasP kk (cutP C LV (fus us 0 60)) = own' at *
                clear q0 q1 q2 q3 q4 q5 q6 ql c0 c1 c2 c3 c4 cl hx10
                go_wp2
                go_ret
                exact ⟨rfl, hE10⟩
end Go.Proofs.Ythancaehlijaoaa

/- wide.Times, wide.Less. -/
namespace Go.Proofs.Ythancaehlijaoaa
set_option linter.unusedVariables false
open Go.RowKit

theorem mul_abs {a b A B : Int} (ha : -A ≤ a ∧ a ≤ A) (hb : -B ≤ b ∧ b ≤ B) : -(A * B) ≤ a * b ∧ a * b ≤ A * B := by
  have h1 : 0 ≤ (A - a) * (B + b) := Int.mul_nonneg (by omega) (by omega)
  have h2 : 0 ≤ (A + a) * (B - b) := Int.mul_nonneg (by omega) (by omega)
  have h3 : 0 ≤ (A - a) * (B - b) := Int.mul_nonneg (by omega) (by omega)
  have h4 : 0 ≤ (A + a) * (B + b) := Int.mul_nonneg (by omega) (by omega)
  simp only [Int.mul_add, Int.add_mul, Int.sub_mul, Int.mul_sub] at h1 h2 h3 h4
  omega
theorem mul_w {a b : Int} (ha : I64 a) (hb : I64 b) : W128 (a * b) := by
  unfold I64 at ha hb
  have := mul_abs (A := 9223372036854775808) (B := 9223372036854775808) (a := a) (b := b) (by omega) (by omega)
  unfold W128; omega
def uu (a : Int) : Int := a % 18446744073709551616
theorem uu_u (a : Int) : U64 (uu a) := by unfold uu U64; omega
def tmH (a b : Int) (b1 b2 : Bool) : Int :=
  let p := uu a * uu b / 18446744073709551616
  let q := bif b1 then IntKind.u64.wrap (p - uu b) else p
  wrap64 (bif b2 then IntKind.u64.wrap (q - uu a) else q)
theorem tm_hi {a b : Int} (ha : I64 a) (hb : I64 b) {b1 b2 : Bool} (d1 : decide (a < 0) = b1) (d2 : decide (b < 0) = b2) : tmH a b b1 b2 = hi (a * b) := by
  have hw := mul_abs (A := 9223372036854775808) (B := 9223372036854775808) (a := a) (b := b) (by unfold I64 at ha; omega) (by unfold I64 at hb; omega)
  have e2 : (a + 18446744073709551616) * b = a * b + 18446744073709551616 * b := Int.add_mul _ _ _
  have e3 : a * (b + 18446744073709551616) = a * b + a * 18446744073709551616 := Int.mul_add _ _ _
  have e4 : (a + 18446744073709551616) * (b + 18446744073709551616) = a * b + a * 18446744073709551616 + (18446744073709551616 * b + 18446744073709551616 * 18446744073709551616) := by
    rw [Int.add_mul, Int.mul_add, Int.mul_add]
  have ua0 : ¬ a < 0 → uu a = a := fun h => by unfold uu; unfold I64 at ha; omega
  have ua1 : a < 0 → uu a = a + 18446744073709551616 := fun h => by unfold uu; unfold I64 at ha; omega
  have ub0 : ¬ b < 0 → uu b = b := fun h => by unfold uu; unfold I64 at hb; omega
  have ub1 : b < 0 → uu b = b + 18446744073709551616 := fun h => by unfold uu; unfold I64 at hb; omega
  subst d1 d2
  unfold tmH hi wrap64
  simp only [IntKind.wrap_u64]
  unfold I64 at ha hb
  by_cases h1 : a < 0 <;> by_cases h2 : b < 0
  · rw [ua1 h1, ub1 h2, e4]; simp only [h1, h2, decide_true, cond_true]; generalize a * b = t at *; omega
  · rw [ua1 h1, ub0 h2, e2]; simp only [h1, h2, decide_true, decide_false, cond_true, cond_false]; generalize a * b = t at *; omega
  · rw [ua0 h1, ub1 h2, e3]; simp only [h1, h2, decide_true, decide_false, cond_true, cond_false]; generalize a * b = t at *; omega
  · rw [ua0 h1, ub0 h2]; simp only [h1, h2, decide_false, cond_false]; generalize a * b = t at *; omega
theorem tm_lo (a b : Int) : uu a * uu b % 18446744073709551616 = lo (a * b) := by
  unfold uu lo
  rw [← Int.mul_emod]
theorem u64_wrap (a : Int) : IntKind.u64.wrap a = uu a := by rw [IntKind.wrap_u64]; rfl
set_option maxHeartbeats 1000000 in
theorem Times_core (a b : Int) (b1 b2 : Bool) (d1 : decide (a < 0) = b1) (d2 : decide (b < 0) = b2) (w : World) :
    Calls Try.prog 67 #[.int .i64 a, .int .i64 b] w fun e w' => e = .returned (.agg #[.int .i64 (tmH a b b1 b2), .int .u64 (uu a * uu b % 18446744073709551616)]) ∧ Ext w w' := by
  have e1 := u64_wrap a
  have e2 := u64_wrap b
  cases b1 <;> cases b2
  all_goals
    go_enter Try.func67, Try.ntmps67
    go_wp2_with (go_at_call 96; refine (mul64 _ _ (uu_u a) (uu_u b) _).mono ?_; rintro e w' ⟨rfl, rfl⟩)
    exact bodyPost_ret (v := .agg #[.int .i64 (tmH a b _ _), .int .u64 (uu a * uu b % 18446744073709551616)]) (by simp [results, Try.results67, go_sem, tmH]) rfl ⟨rfl, by (repeat' (first | exact Ext.refl _ | assumption | apply Ext.allocR | apply Ext.drewR | apply Ext.drewNR | (refine Ext.trans' ?_ (by assumption))))⟩
theorem Times_c (a b : Int) (ha : I64 a) (hb : I64 b) (w : World) :
    Calls Try.prog 67 #[.int .i64 a, .int .i64 b] w fun e w' => e = .returned (.agg #[.int .i64 (hi (a * b)), .int .u64 (lo (a * b))]) ∧ Ext w w' := by
  have := Times_core a b _ _ rfl rfl w
  rwa [tm_hi ha hb rfl rfl, tm_lo] at this
theorem less_bool (x y : Int) : (decide (hi x < hi y) || ((hi x == hi y) && decide (lo x < lo y))) = decide (x < y) := by
  have hx := hilo x
  have hy := hilo y
  have lx := lo_u x
  have ly := lo_u y
  unfold U64 at lx ly
  rw [Bool.eq_iff_iff]
  simp only [Bool.or_eq_true, Bool.and_eq_true, decide_eq_true_eq, beq_iff_eq]
  omega
set_option maxHeartbeats 1000000 in
theorem Less_core (x y : Int) (b1 b2 b3 : Bool) (d1 : decide (hi x < hi y) = b1) (d2 : (hi x == hi y) = b2) (d3 : decide (lo x < lo y) = b3) (w : World) :
    Calls Try.prog 41 #[.agg #[.int .i64 (hi x), .int .u64 (lo x)], .agg #[.int .i64 (hi y), .int .u64 (lo y)]] w fun e w' => e = .returned (.bool (b1 || (b2 && b3))) ∧ Ext w w' := by
  cases b1 <;> cases b2 <;> cases b3
  all_goals
    go_enter Try.func41, Try.ntmps41
    go_wp2
    go_ret
    exact ⟨rfl, by (repeat' (first | exact Ext.refl _ | assumption | apply Ext.allocR | apply Ext.drewR | apply Ext.drewNR | (refine Ext.trans' ?_ (by assumption))))⟩
theorem Less_c (x y : Int) (w : World) :
    Calls Try.prog 41 #[.agg #[.int .i64 (hi x), .int .u64 (lo x)], .agg #[.int .i64 (hi y), .int .u64 (lo y)]] w fun e w' => e = .returned (.bool (decide (x < y))) ∧ Ext w w' := by
  have := Less_core x y _ _ _ rfl rfl rfl w
  rwa [less_bool] at this
end Go.Proofs.Ythancaehlijaoaa

/- inner.Dot: sums of products, as long as each fits. -/
namespace Go.Proofs.Ythancaehlijaoaa
set_option linter.unusedVariables false
open Go.RowKit

theorem IntsAt.sl {w : World} {v : Value} {xs : List Int} (h : IntsAt w v xs) : ∃ p c, v = .slice p xs.length c := by
  rcases h with ⟨rfl, rfl⟩ | ⟨g, off, cap, rfl, _⟩
  · exact ⟨none, 0, rfl⟩
  · exact ⟨_, _, rfl⟩
theorem IntsAt.one {w : World} {p : Option Addr} {n c : Nat} {xs : List Int} (h : IntsAt w (.slice p n c) xs) {k : Nat} (hk : k < xs.length) :
    ∃ g off, p = some ⟨g, off, none⟩ ∧ g < w.heap.size ∧ w.cell? ⟨g, off + k, none⟩ = some (.int .i64 (xs.getD k 0)) := by
  rcases h with ⟨_, rfl⟩ | ⟨g, off, cap, hv, hg, hc⟩
  · simp at hk
  · cases hv
    exact ⟨g, off, rfl, hg, hc k hk⟩
def fit128 (x : Int) : Bool := decide (-170141183460469231731687303715884105728 ≤ x ∧ x ≤ 170141183460469231731687303715884105727)
theorem fit128_iff {x : Int} : fit128 x = true ↔ W128 x := decide_eq_true_iff
/-- The sum of the first k products, if each sum on the way fits. -/
def dotF (a b : List Int) : Nat → Option Int
  | 0 => some 0
  | k + 1 => (dotF a b k).bind fun s => bif fit128 (s + a.getD k 0 * b.getD k 0) then some (s + a.getD k 0 * b.getD k 0) else none
theorem dotF_w {a b : List Int} : ∀ {k : Nat} {s : Int}, dotF a b k = some s → W128 s := by
  intro k s h
  cases k with
  | zero => cases h; unfold W128; omega
  | succ k =>
    simp only [dotF] at h
    cases hd : dotF a b k with
    | none => rw [hd] at h; cases h
    | some t =>
      rw [hd] at h
      simp only [Option.bind_some] at h
      cases hf : fit128 (t + a.getD k 0 * b.getD k 0) with
      | false => rw [hf] at h; cases h
      | true => rw [hf] at h; cases h; exact fit128_iff.1 hf
theorem dotF_yes {a b : List Int} {k : Nat} {s : Int} (h : dotF a b k = some s) (hw : W128 (s + a.getD k 0 * b.getD k 0)) : dotF a b (k + 1) = some (s + a.getD k 0 * b.getD k 0) := by
  simp only [dotF, h, Option.bind_some, fit128_iff.2 hw, cond_true]
theorem dotF_no {a b : List Int} {k : Nat} {s : Int} (h : dotF a b k = some s) (hw : ¬ W128 (s + a.getD k 0 * b.getD k 0)) : dotF a b (k + 1) = none := by
  have : fit128 (s + a.getD k 0 * b.getD k 0) = false := by
    cases hf : fit128 (s + a.getD k 0 * b.getD k 0) with
    | false => rfl
    | true => exact absurd (fit128_iff.1 hf) hw
  simp only [dotF, h, Option.bind_some, this, cond_false]
theorem dotF_none {a b : List Int} {k : Nat} (h : dotF a b k = none) : ∀ {n : Nat}, k ≤ n → dotF a b n = none := by
  intro n hn
  induction n with
  | zero => obtain rfl : k = 0 := by omega
            exact h
  | succ n ih =>
    rcases Nat.lt_or_ge n k with h1 | h1
    · obtain rfl : k = n + 1 := by omega
      exact h
    · simp only [dotF, ih h1, Option.bind_none]
def dotV : Option Int → Value
  | some s => .tuple #[.agg #[.int .i64 (hi s), .int .u64 (lo s)], .bool true]
  | none => .tuple #[.agg #[.int .i64 0, .int .u64 0], .bool false]
set_option maxRecDepth 20000 in
set_option maxHeartbeats 4000000 in
theorem Dot_c (a b : List Int) (v1 v2 : Value) (w : World) (ha : ∀ x ∈ a, I64 x) (hb : ∀ x ∈ b, I64 x) (hl : a.length = b.length) (hn : a.length ≤ 1152921504606846976) (h1 : IntsAt w v1 a) (h2 : IntsAt w v2 b) :
    Calls Try.prog 31 #[v1, v2] w fun e w' => e = .returned (dotV (dotF a b a.length)) ∧ Ext w w' := by
  obtain ⟨p1, c1, rfl⟩ := h1.sl
  obtain ⟨p2, c2, rfl⟩ := h2.sl
  obtain ⟨n, hN⟩ : ∃ n, a.length = n := ⟨_, rfl⟩
  have HB : Hid (b.length = n) := Lib.hid (hl.symm.trans hN)
  have HN := Lib.hid hN
  have H1 := Lib.hid h1
  have H2 := Lib.hid h2
  rw [← hl]
  rw [hN] at hn ⊢
  clear hl hN h1 h2
  go_enter Try.func31, Try.ntmps31
  go_wp2_with fail
  go_loopw [19] (fun u wr => ∃ (k : Nat) (s : Int), k ≤ n ∧ u = .int .i64 k ∧ dotF a b k = some s ∧ Ext w wr ∧ wr.heap[w.heap.size + 1]? = some (.cells #[.int .i64 (hi s), .int .u64 (lo s)] 56 (0, 0)) ∧ wr.heap[w.heap.size]? = some (.cells #[.int .i64 0, .int .u64 0] 56 (0, 0))) (fun u _ => n - (intOf u).toNat)
  case atStart =>
    refine ⟨0, 0, Nat.zero_le _, rfl, rfl, (Ext.alloc' _ _).allocR _, heap_at _ _ (size_alloc _ _).symm, ?_⟩
    rw [heap_old _ _ (by rw [size_alloc]; exact Nat.lt_succ_self _)]
    exact heap_at _ _ rfl
  case round =>
    obtain ⟨k, s, hk, rfl, hs, hx, hg1, hg0⟩ := hrel
    have x0 := (cell_of hg1 0).trans rfl
    have x1 := (cell_of hg1 1).trans rfl
    have l1 := lt_of hg1
    by_cases hgo : k < n
    · obtain ⟨ga, oa, rfl, hga, d1⟩ := H1.out.one (k := k) (by rw [HN.out]; exact hgo)
      obtain ⟨gb, ob, rfl, hgb, d2⟩ := H2.out.one (k := k) (by rw [HB.out]; exact hgo)
      have e1 := ((bcell hx).1 ga _ hga).trans d1
      have e2 := ((bcell hx).1 gb _ hgb).trans d2
      have la : ga < wr.heap.size := Nat.lt_of_lt_of_le hga hx.size
      have lb : gb < wr.heap.size := Nat.lt_of_lt_of_le hgb hx.size
      have ia := ha _ (getD_mem (l := a) (k := k) (by rw [HN.out]; exact hgo))
      have ib := hb _ (getD_mem (l := b) (k := k) (by rw [HB.out]; exact hgo))
      have hyes := dotF_yes hs
      have hno := dotF_no hs
      have hsw := dotF_w hs
      generalize a.getD k 0 = x at *
      generalize b.getD k 0 = y at *
      have hpw := mul_w ia ib
      have HYES := Lib.hid hyes
      have HNO := Lib.hid hno
      have HG0 := Lib.hid hg0
      have HG1 := Lib.hid hg1
      clear hyes hno hs hg0 hg1 d1 d2 hga hgb
      obtain ⟨rh, rl, ok, hAdd, hok1, hok0⟩ : ∃ (rh rl : Int) (ok : Bool), (∀ w0 : World, Calls Try.prog 42 #[.agg #[.int .i64 (hi s), .int .u64 (lo s)], .agg #[.int .i64 (hi (x * y)), .int .u64 (lo (x * y))]] w0 fun e w' => e = .returned (.tuple #[.agg #[.int .i64 rh, .int .u64 rl], .bool ok]) ∧ Ext w0 w') ∧ (ok = true → W128 (s + x * y) ∧ rh = hi (s + x * y) ∧ rl = lo (s + x * y)) ∧ (ok = false → ¬ W128 (s + x * y)) := by
        by_cases hfit : W128 (s + x * y)
        · exact ⟨_, _, true, fun w0 => Add_yes s (x * y) hsw hpw hfit w0, (fun _ => ⟨hfit, rfl, rfl⟩), (fun h => by cases h)⟩
        · exact ⟨_, _, false, fun w0 => Add_no s (x * y) hsw hpw hfit w0, (fun h => by cases h), (fun _ => hfit)⟩
      have hAdd := Lib.hid hAdd
      have HOK1 := Lib.hid hok1
      have HOK0 := Lib.hid hok0
      clear hok1 hok0
      go_upto_region 7 with (fail)
      go_cut [9, 10] (fun s9 s10 wx => ∃ z : Nat, s9 = .pointer (some ⟨z, 0, none⟩) ∧ s10 = .bool ok ∧ wx.heap[z]? = some (.cells #[.int .i64 rh, .int .u64 rl] 56 (0, 0)) ∧ Ext wr wx ∧ wr.heap.size ≤ z)
      case first =>
        have hC0 := af_drew wr
        refine pi_start (fun w' => ∃ x : After wr, w' = x.w) [] (by kernel_rfl) ?_
        refine pi_t 1 rfl (by kernel_rfl) (by kernel_rfl) (fun _ _ _ _ h => h) (fun K hK => ?_)
        go_big_quiet_op
        refine hK _ ?_
        clear hK K
        refine pi_t 2 rfl (by kernel_rfl) (by kernel_rfl) (fun _ _ _ _ h => h) (fun K hK => ?_)
        go_big_quiet_op
        refine hK _ ?_
        clear hK K
        refine pi_t 3 rfl (by kernel_rfl) (by kernel_rfl) (fun _ _ _ _ h => h) (fun K hK => ?_)
        go_big_quiet_op
        refine hK _ ?_
        clear hK K
        refine pi_t 4 rfl (by kernel_rfl) (by kernel_rfl) (fun _ _ _ _ h => h) (fun K hK => ?_)
        go_big_quiet_op
        refine hK _ ?_
        clear hK K
        refine pi_c 0 (by assumption) rfl (by kernel_rfl) (by kernel_rfl) (fun _ _ _ _ h => h) (fun K hK => ?_)
        go_big_quiet_op
        refine hK _ ?_
        clear hK K
        refine pi_c 5 (by assumption) rfl (by kernel_rfl) (by kernel_rfl) (fun _ _ _ _ h => h) (fun K hK => ?_)
        go_big_quiet_op
        refine hK _ ?_
        clear hK K
        refine pi_b 6 11 rfl rfl (by kernel_rfl) (fun K hK => ?_) (fun K hK => ?_)
        · go_wp2_with (go_at_call 67; refine (Times_c x y ia ib _).mono ?_; rintro e wt ⟨rfl, hxt⟩)
          refine hK _ _ (fun _ h => af_step h hxt) ?_
          clear hK K
          have hEt : Ext wr wt := Ext.trans' (Below.drew (Ext.refl wr)) hxt
          refine pi_b 7 11 rfl rfl (by kernel_rfl) (fun K hK => ?_) (fun K hK => ?_)
          · go_wp2_with (go_at_call 42; refine (hAdd.out _).mono ?_; rintro e wa ⟨rfl, hxa⟩)
            refine hK _ _ (fun _ h => af_step h hxa) ?_
            clear hK K
            have hEa := hEt.trans' hxa
            refine pi_t 8 rfl (by kernel_rfl) (by kernel_rfl) (fun _ _ _ _ h => h) (fun K hK => ?_)
            go_big_quiet_op
            refine hK _ ?_
            clear hK K
            refine pi_t 9 rfl (by kernel_rfl) (by kernel_rfl) (fun _ _ _ _ h => h) (fun K hK => ?_)
            go_big_quiet_op
            refine hK _ ?_
            clear hK K
            refine pi_t 10 rfl (by kernel_rfl) (by kernel_rfl) (fun _ _ _ _ h => h) (fun K hK => ?_)
            go_big_quiet_op
            refine hK _ ?_
            clear hK K
            refine pi_l 11 rfl (by kernel_rfl) (fun K hK => ?_)
            go_wp2
            refine hK _ _ (fun _ h => af_step h (Ext.alloc' _ _)) ?_
            clear hK K
            refine pi_l 12 rfl (by kernel_rfl) (fun K hK => ?_)
            go_wp2
            have hsz := hEa.size
            refine hK _ _ (fun _ h => ⟨⟨_, hEa.allocR _⟩, rfl⟩) ?_
            clear hK K
            refine pi_t 13 rfl (by kernel_rfl) (by kernel_rfl) (fun _ _ _ _ h => h) (fun K hK => ?_)
            go_big_quiet_op
            refine hK _ ?_
            clear hK K
            refine pi_end (by kernel_rfl) ?_
            go_wp2_with fail
            go_meet
            exact ⟨_, rfl, rfl, heap_at _ _ rfl, hEa.allocR _, hsz⟩
          · go_wp2
            refine hK _ _ (fun _ h => af_step h (Ext.alloc' _ _)) ?_
            clear hK K
            refine pi_l 7 rfl (by kernel_rfl) (fun K hK => ?_)
            go_wp2_with (go_at_call 42; refine (hAdd.out _).mono ?_; rintro e wa ⟨rfl, hxa⟩)
            refine hK _ _ (fun _ h => af_step h hxa) ?_
            clear hK K
            have hEa := (hEt.allocR _).trans' hxa
            have hbx := hxa.keep (heap_at wt _ rfl)
            have hsz := hEt.size
            have p0 := (cell_of hbx 0).trans rfl
            have p1 := (cell_of hbx 1).trans rfl
            have f0 := frozen_of hbx 0
            have f1 := frozen_of hbx 1
            have HBX := Lib.hid hbx
            clear hbx
            refine pi_t 8 rfl (by kernel_rfl) (by kernel_rfl) (fun _ _ _ _ h => h) (fun K hK => ?_)
            go_big_quiet_op
            refine hK _ ?_
            clear hK K
            refine pi_t 9 rfl (by kernel_rfl) (by kernel_rfl) (fun _ _ _ _ h => h) (fun K hK => ?_)
            go_big_quiet_op
            refine hK _ ?_
            clear hK K
            refine pi_t 10 rfl (by kernel_rfl) (by kernel_rfl) (fun _ _ _ _ h => h) (fun K hK => ?_)
            go_big_quiet_op
            refine hK _ ?_
            clear hK K
            refine pi_l 12 rfl (by kernel_rfl) (fun K hK => ?_)
            go_wp2
            refine hK _ _ (fun _ h => ⟨⟨_, (hEa.setR hsz _).setR hsz _⟩, rfl⟩) ?_
            clear hK K
            refine pi_t 13 rfl (by kernel_rfl) (by kernel_rfl) (fun _ _ _ _ h => h) (fun K hK => ?_)
            go_big_quiet_op
            refine hK _ ?_
            clear hK K
            refine pi_end (by kernel_rfl) ?_
            go_wp2_with fail
            go_meet
            exact ⟨_, rfl, rfl, set2 HBX.out _ _, (hEa.setR hsz _).setR hsz _, hsz⟩
        · go_wp2
          refine hK _ _ (fun _ h => af_step h (Ext.alloc' _ _)) ?_
          clear hK K
          refine pi_l 6 rfl (by kernel_rfl) (fun K hK => ?_)
          go_wp2_with (go_at_call 67; refine (Times_c x y ia ib _).mono ?_; rintro e wt ⟨rfl, hxt⟩)
          refine hK _ _ (fun _ h => af_step h hxt) ?_
          clear hK K
          refine pi_l 7 rfl (by kernel_rfl) (fun K hK => ?_)
          go_wp2_with (go_at_call 42; refine (hAdd.out _).mono ?_; rintro e wa ⟨rfl, hxa⟩)
          refine hK _ _ (fun _ h => af_step h hxa) ?_
          clear hK K
          have hEa : Ext wr wa := Ext.trans' (Ext.trans' (Ext.alloc' wr _) (Ext.trans' (Below.drew (Ext.refl _)) hxt)) hxa
          have hbx : wa.heap[wr.heap.size]? = some (.cells #[.int .i64 0, .int .u64 0] 56 (0, 0)) := hxa.keep (hxt.keep (heap_at wr.drew _ rfl))
          have p0 := (cell_of hbx 0).trans rfl
          have p1 := (cell_of hbx 1).trans rfl
          have f0 := frozen_of hbx 0
          have f1 := frozen_of hbx 1
          have HBX := Lib.hid hbx
          clear hbx
          refine pi_t 8 rfl (by kernel_rfl) (by kernel_rfl) (fun _ _ _ _ h => h) (fun K hK => ?_)
          go_big_quiet_op
          refine hK _ ?_
          clear hK K
          refine pi_t 9 rfl (by kernel_rfl) (by kernel_rfl) (fun _ _ _ _ h => h) (fun K hK => ?_)
          go_big_quiet_op
          refine hK _ ?_
          clear hK K
          refine pi_t 10 rfl (by kernel_rfl) (by kernel_rfl) (fun _ _ _ _ h => h) (fun K hK => ?_)
          go_big_quiet_op
          refine hK _ ?_
          clear hK K
          refine pi_l 12 rfl (by kernel_rfl) (fun K hK => ?_)
          go_wp2
          refine hK _ _ (fun _ h => ⟨⟨_, (hEa.setR (p := ⟨wr.heap.size, 0, none⟩) (Nat.le_refl _) _).setR (p := ⟨wr.heap.size, 1, none⟩) (Nat.le_refl _) _⟩, rfl⟩) ?_
          clear hK K
          refine pi_t 13 rfl (by kernel_rfl) (by kernel_rfl) (fun _ _ _ _ h => h) (fun K hK => ?_)
          go_big_quiet_op
          refine hK _ ?_
          clear hK K
          refine pi_end (by kernel_rfl) ?_
          go_wp2_with fail
          go_meet
          exact ⟨_, rfl, rfl, set2 HBX.out _ _, (hEa.setR (p := ⟨wr.heap.size, 0, none⟩) (Nat.le_refl _) _).setR (p := ⟨wr.heap.size, 1, none⟩) (Nat.le_refl _) _, Nat.le_refl _⟩
      case rest =>
        obtain ⟨z, rfl, rfl, hz, hEc, hzz⟩ := hcut
        have hE := hx.trans' hEc
        have y0 := (cell_of hz 0).trans rfl
        have y1 := (cell_of hz 1).trans rfl
        have zl := lt_of hz
        have hg0 := hEc.keep HG0.out
        have hg1 := hEc.keep HG1.out
        cases ok
        · have hnn := HNO.out (HOK0.out rfl)
          have hnil := dotF_none hnn (n := n) (by omega)
          have a0 := (cell_of hg0 0).trans rfl
          have a1 := (cell_of hg0 1).trans rfl
          have f0 := frozen_of hg0 0
          have f1 := frozen_of hg0 1
          have HG0' := Lib.hid hg0
          have HNIL := Lib.hid hnil
          clear hg0 hg1 hnn hnil
          go_wp2_with fail
          refine bodyPost_ret (v := .tuple #[.agg #[.int .i64 0, .int .u64 0], .bool false]) (by simp [results, Try.results31, go_sem, set2_0, set2_1, *]) rfl ⟨by rw [HNIL.out]; rfl, ?_⟩
          exact (hE.setR (Nat.le_refl _) _).setR (Nat.le_refl _) _
        · obtain ⟨hfit, rfl, rfl⟩ := HOK1.out rfl
          have hss := HYES.out hfit
          have a0 := (cell_of hg1 0).trans rfl
          have a1 := (cell_of hg1 1).trans rfl
          have f0 := frozen_of hg1 0
          have f1 := frozen_of hg1 1
          have HG0' := Lib.hid hg0
          have HG1' := Lib.hid hg1
          have HSS := Lib.hid hss
          clear hg0 hg1 hss x0 x1
          go_wp2_with fail
          go_roundw
          case rel =>
            refine ⟨k + 1, s + x * y, by omega, by go_num, HSS.out, (hE.setR (Nat.le_succ _) _).setR (Nat.le_succ _) _, set2 HG1'.out _ _, ?_⟩
            rw [setCell_other _ _ (by omega), setCell_other _ _ (by omega)]
            exact HG0'.out
          case measure => simp [intOf]; omega
    · obtain rfl : k = n := by omega
      have HSS := Lib.hid hs
      have a0 := (cell_of hg0 0).trans rfl
      have a1 := (cell_of hg0 1).trans rfl
      have f0 := frozen_of hg0 0
      have f1 := frozen_of hg0 1
      have HG0 := Lib.hid hg0
      clear hg0 hg1 hs
      go_wp2_with fail
      refine bodyPost_ret (v := .tuple #[.agg #[.int .i64 (hi s), .int .u64 (lo s)], .bool true]) (by simp [results, Try.results31, go_sem, *]) rfl ⟨by rw [HSS.out]; rfl, ?_⟩
      exact (hx.setR (Nat.le_refl _) _).setR (Nat.le_refl _) _
end Go.Proofs.Ythancaehlijaoaa
