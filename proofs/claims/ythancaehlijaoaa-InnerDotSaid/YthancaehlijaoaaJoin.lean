/- grid.Plus, grid.Minus: two grids, cell by cell; nothing is changed if one cell does not fit. -/
import Derived.Test.YthancaehlijaoaaShown
import Derived.Laws.CopyOwn
namespace Go.Proofs.Ythancaehlijaoaa
set_option linter.unusedVariables false
open Go.RowKit

def allI (l : List Int) : Prop := ∀ x ∈ l, I64 x
def JoinPost (w : World) (b c R W : Nat) (m : List Int) (e : Ending) (w' : World) : Prop :=
  (allI m ∧ e = .returned (.int .i64 0) ∧ GAt w' b c R W m ∧ Mod (fun k => k = c) w w') ∨ (¬ allI m ∧ e = .returned (.int .i64 4) ∧ Ext w w')
def plusL (l m : List Int) : List Int := (List.range l.length).map fun k => l.getD k 0 + m.getD k 0
def minusL (l m : List Int) : List Int := (List.range l.length).map fun k => l.getD k 0 - m.getD k 0
theorem plusL_len (l m : List Int) : (plusL l m).length = l.length := by simp [plusL]
theorem minusL_len (l m : List Int) : (minusL l m).length = l.length := by simp [minusL]
theorem map_all {f : Nat → Int} {n : Nat} (h : ∀ j, j < n → I64 (f j)) : allI ((List.range n).map f) := by
  intro x hx
  simp only [List.mem_map, List.mem_range] at hx
  obtain ⟨j, hj, rfl⟩ := hx
  exact h j hj
theorem map_not {f : Nat → Int} {n j : Nat} (hj : j < n) (h : ¬ I64 (f j)) : ¬ allI ((List.range n).map f) := by
  intro ha
  exact h (ha _ (by simp only [List.mem_map, List.mem_range]; exact ⟨j, hj, rfl⟩))
theorem ints_one {l : List Int} : ∀ v ∈ ints l, v.oneCell' = true := by
  intro v hv
  simp only [ints, List.mem_map] at hv
  obtain ⟨x, _, rfl⟩ := hv
  rfl
theorem CAt.copied {w : World} {c cap : Nat} {l m : List Int} {cur : Array Value} (hg : w.heap[c]? = some (.cells cur 2 (0, 0))) (hs : cur.size = cap) (hle : l.length ≤ cap) (hmx : cap ≤ maxLen) (hm : m.length = l.length) :
    CAt (w.setRow c (cur.toList.take 0 ++ (Go.Proofs.Ythancaehlijaoaa.ints m ++ cur.toList.drop (0 + (Go.Proofs.Ythancaehlijaoaa.ints m).length))).toArray) c cap m := by
  refine ⟨⟨_, setRow_heap w c _ _ _ _ hg, ?_, ?_⟩, by omega, hmx⟩
  · simp [Go.Proofs.Ythancaehlijaoaa.ints]; omega
  · simp [Go.Proofs.Ythancaehlijaoaa.ints]
theorem CAt.copied' {w : World} {c cap : Nat} {l m : List Int} {cur : Array Value} (hg : w.heap[c]? = some (.cells cur 2 (0, 0))) (hs : cur.size = cap) (hle : l.length ≤ cap) (hmx : cap ≤ maxLen) (hm : m.length = l.length) :
    CAt (w.setRow c (Go.Proofs.Ythancaehlijaoaa.ints m ++ cur.toList.drop (Go.Proofs.Ythancaehlijaoaa.ints m).length).toArray) c cap m := by
  have := CAt.copied (w := w) (l := l) (m := m) hg hs hle hmx hm
  simpa using this
theorem mod_row {w w' : World} {c : Nat} (h : Mod (fun k => k = c) w w') (cs : Array Value) : Mod (fun k => k = c) w (w'.setRow c cs) :=
  ⟨h.os, h.tape, h.output, by rw [size_setRow]; exact h.size, fun k hk hn => (setRow_other _ _ _ _ hn).trans (h.block k hk hn)⟩
theorem addr_plain (b off i : Nat) : (Addr.add ⟨b, off, none⟩ i) = ⟨b, off + i, none⟩ := by
  unfold Addr.add
  by_cases h : i = 0
  · subst h; simp
  · simp [h]
theorem GAt.row {w wr : World} {b c R W : Nat} {l m : List Int} (h : GAt w b c R W l) (hE : Ext w wr) {cur : Array Value} {cap : Nat} (hb : w.heap[b]? = some (.cells #[.int .i64 R, .int .i64 W, .slice (some ⟨c, 0, none⟩) l.length cap] 135 (0, 0))) (hc : CAt w c cap l)
    (hg : wr.heap[c]? = some (.cells cur 2 (0, 0))) (hs : cur.size = cap) (hm : m.length = l.length) :
    GAt (wr.setRow c (ints m ++ cur.toList.drop (ints m).length).toArray) b c R W m :=
  ⟨⟨cap, by rw [setRow_other _ _ _ _ h.ne, hE.block b h.ltb, hm]; exact hb, CAt.copied' hg hs hc.le hc.mx hm⟩, h.r1, h.r2, h.w1, h.w2, by rw [hm]; exact h.len⟩
theorem Plus_fit (a b : Int) (ha : I64 a) (hb : I64 b) (h : I64 (a + b)) (w : World) :
    Calls Try.prog 84 #[.int .i64 a, .int .i64 b] w fun e w' => e = .returned (.tuple #[.int .i64 (a + b), .bool true]) ∧ Ext w w' :=
  (Plus_c a b ha hb w).mono fun _ _ ⟨he, hx⟩ => ⟨by rw [he, fitN, fitB_yes h]; rfl, hx⟩
theorem Plus_no (a b : Int) (ha : I64 a) (hb : I64 b) (h : ¬ I64 (a + b)) (w : World) :
    Calls Try.prog 84 #[.int .i64 a, .int .i64 b] w fun e w' => e = .returned (.tuple #[.int .i64 0, .bool false]) ∧ Ext w w' :=
  (Plus_c a b ha hb w).mono fun _ _ ⟨he, hx⟩ => ⟨by rw [he, fitN, fitB_no h]; rfl, hx⟩
set_option maxRecDepth 20000 in
set_option maxHeartbeats 2000000 in
theorem allPlus_c (b c b2 c2 R W : Nat) (l l2 : List Int) (w : World) (h : GAt w b c R W l) (h2 : GAt w b2 c2 R W l2) (hI : allI l) (hI2 : allI l2) :
    Calls Try.prog 95 #[.agg #[.pointer (some ⟨b, 0, none⟩), .func (.func 84) #[] #[]], .pointer (some ⟨b2, 0, none⟩)] w (JoinPost w b c R W (plusL l l2)) := by
  obtain ⟨cap, hb, hc⟩ := h.ex
  obtain ⟨cap2, hb2, hc2⟩ := h2.ex
  have hl := h.len
  have hl2 := h2.len
  have hN1 : R * W ≤ 1024 := Nat.le_trans (Nat.mul_le_mul h.r2 h.w2) (by decide)
  have hN2 : 1 ≤ R * W := Nat.mul_pos h.r1 h.w1
  have hLL : plusL l l2 = (List.range l.length).map fun k => l.getD k 0 + l2.getD k 0 := rfl
  rw [hLL]
  have HB := Lib.hid hb
  rw [hl] at hb ⊢
  rw [hl2] at hb2
  generalize hNN : R * W = N at *
  obtain ⟨f, hf⟩ : ∃ f : Nat → Int, f = fun k => l.getD k 0 + l2.getD k 0 := ⟨_, rfl⟩
  rw [← hf]
  have HF := Lib.hid hf
  have HL := Lib.hid hl
  have HL2 := Lib.hid hl2
  have HNN := Lib.hid hNN
  have e0 := (cell_of hb 0).trans rfl
  have e1 := (cell_of hb 1).trans rfl
  have e2 := (cell_of hb 2).trans rfl
  have k0 := (cell_of hb2 0).trans rfl
  have k1 := (cell_of hb2 1).trans rfl
  have k2 := (cell_of hb2 2).trans rfl
  have ltb := h.ltb
  have ltc := h.ltc
  have ltb2 := h2.ltb
  have ltc2 := h2.ltc
  obtain ⟨ii, hi, hz0, hz1, hz2⟩ := info_parts info_i64
  have hmk := fun (x : World) => run_make_ints 32 2 ii Try.underlying32 hi hz0 hz1 hz2 N (by omega) f x
  have HH := Lib.hid h
  have HH2 := Lib.hid h2
  have HC := Lib.hid hc
  have HC2 := Lib.hid hc2
  clear hf hl hl2 hNN hb hb2 h h2 hc hc2 hLL hi hz0 hz1 hz2
  go_enter Try.func95, Try.ntmps95
  go_wp2_with fail
  refine wp_region_after (by kernel_rfl) (by kernel_rfl) ?_
  repeat (go_big_quiet_step (fail))
  refine wpQuiet_nil ?_
  rintro _ ⟨xx, rfl⟩
  obtain ⟨w1, hb1⟩ := xx
  try dsimp only
  have hj0 : w1.cell? ⟨w.heap.size, 0, none⟩ = some (.pointer (some ⟨b, 0, none⟩)) := by rw [(bcell hb1).1 _ _ (by rw [size_alloc]; omega)]; simp [go_sem]
  have hj1 : w1.cell? ⟨w.heap.size, 1, none⟩ = some (.func (.func 84) #[] #[]) := by rw [(bcell hb1).1 _ _ (by rw [size_alloc]; omega)]; simp [go_sem]
  have hbs := hb1.size
  rw [size_alloc] at hbs
  have hE : Ext w w1 := by (repeat' (first | exact Ext.refl _ | assumption | apply Ext.allocR | apply Ext.drewR | apply Ext.drewNR | (refine Ext.trans' ?_ (by assumption))))
  clear hb1
  have e2' := ((bcell hE).1 _ _ ltb).trans e2
  have k2' := ((bcell hE).1 _ _ ltb2).trans k2
  have lb1 : b < w1.heap.size := Nat.lt_of_lt_of_le ltb hE.size
  have lb2 : b2 < w1.heap.size := Nat.lt_of_lt_of_le ltb2 hE.size
  clear e0 e1 k0 k1 e2 k2
  go_wp2_with fail
  clear hmk
  go_loopw [48] (fun u48 wr => ∃ k : Nat, k ≤ N ∧ u48 = .int .i64 k ∧ (∀ j, j < k → I64 (f j)) ∧ Ext w1 wr ∧ w1.heap.size < wr.heap.size ∧ wr.heap[w1.heap.size]? = some (.cells (fillA f k N) 2 (0, 0))) (fun u48 _ => N - (intOf u48).toNat)
  case atStart => exact ⟨0, Nat.zero_le _, rfl, fun j hj => absurd hj (Nat.not_lt_zero j), Ext.alloc' _ _, by rw [size_alloc]; omega, heap_at _ _ rfl⟩
  case round =>
    obtain ⟨k, hk, rfl, hfit, hx, hsz, hg2⟩ := hrel
    have HFIT := Lib.hid hfit
    clear hfit
    have hEw : Ext w wr := hE.trans' hx
    have j0 := ((bcell hx).1 _ 0 (show w.heap.size < w1.heap.size by omega)).trans hj0
    have j1 := ((bcell hx).1 _ 1 (show w.heap.size < w1.heap.size by omega)).trans hj1
    have g2 := ((bcell hx).1 _ 2 (show b < w1.heap.size by omega)).trans e2'
    have m2 := ((bcell hx).1 _ 2 (show b2 < w1.heap.size by omega)).trans k2'
    have s0 : w.heap.size < wr.heap.size := by omega
    have s1 : b < wr.heap.size := by omega
    have s2 : b2 < wr.heap.size := by omega
    have s3 : c < wr.heap.size := by omega
    have s4 : c2 < wr.heap.size := by omega
    by_cases hlt : k < N
    · have x0 := ((bcell hEw).1 _ k ltc).trans (HC.out.cell (i := k) (by rw [HL.out]; exact hlt))
      have x1 := ((bcell hEw).1 _ k ltc2).trans (HC2.out.cell (i := k) (by rw [HL2.out]; exact hlt))
      have hfk : f k = l.getD k 0 + l2.getD k 0 := by rw [HF.out]
      have i0 := getD_i64 hI k
      have i1 := getD_i64 hI2 k
      generalize l.getD k 0 = a at *
      generalize l2.getD k 0 = a2 at *
      obtain ⟨v0, d0⟩ : ∃ v0, wr.cell? ⟨w1.heap.size, k, none⟩ = some v0 := ⟨_, (cell_of hg2 k).trans (fillA_at _ _ _ _ hlt)⟩
      have d1 := frozen_of hg2 k
      have HG := Lib.hid hg2
      clear hg2
      by_cases hf : I64 (a + a2)
      · have HFK := Lib.hid hfk
        have HFI := Lib.hid hf
        clear hfk hf
        go_wp2_with fail
        refine wp_region_after (by kernel_rfl) (by kernel_rfl) ?_
        repeat (go_big_quiet_step ((go_at_call 84; exact quiet_after (Plus_fit a a2 i0 i1 HFI.out _))))
        refine wpQuiet_nil ?_
        rintro _ ⟨xx, rfl⟩
        obtain ⟨w5, hb5⟩ := xx
        try dsimp only
        have d0' := ((bcell hb5).1 _ _ hsz).trans d0
        have d1' := ((bcell hb5).2 _ _ hsz).trans d1
        have hg5 := (hb5.block _ hsz).trans HG.out
        have HG5 := Lib.hid hg5
        have hx5 := hx.trans' hb5
        have hs5 := hb5.size
        clear hg5 d0 d1
        go_wp2_with fail
        go_roundw
        case rel =>
          refine ⟨k + 1, by omega, by go_num, fun j hj => ?_, hx5.setR (Nat.le_refl _) _, by rw [size_setCell]; omega, ?_⟩
          · by_cases hjk : j < k
            · exact HFIT.out j hjk
            · obtain rfl : j = k := by omega
              rw [HFK.out]; exact HFI.out
          · rw [setCell_same HG5.out, ← fillA_set, HFK.out]
        case measure => simp [intOf]; omega
      · have HFK := Lib.hid hfk
        have HFI := Lib.hid hf
        clear hfk hf
        go_wp2_with fail
        refine wp_region_after (by kernel_rfl) (by kernel_rfl) ?_
        repeat (go_big_quiet_step ((go_at_call 84; exact quiet_after (Plus_no a a2 i0 i1 HFI.out _))))
        refine wpQuiet_nil ?_
        rintro _ ⟨xx, rfl⟩
        obtain ⟨w5, hb5⟩ := xx
        try dsimp only
        go_wp2_with fail
        go_ret
        refine .inr ⟨?_, rfl, hEw.trans' hb5⟩
        exact map_not hlt (by rw [HFK.out]; exact HFI.out)
    · have HG := Lib.hid hg2
      clear hg2
      obtain rfl : k = N := by omega
      obtain ⟨cur, hcur, hcs, hct⟩ := (HC.out.keep (hEw.block c ltc)).ex
      have HCUR := Lib.hid hcur
      have HCS := Lib.hid hcs
      clear hcur hcs hct
      go_wp2_with (with_reducible refine wpList_copy_own rfl _ _ 32 32 rfl 2 Try.underlying32 (by kernel_rfl) c 0 _ _ ⟨w1.heap.size, 0, none⟩ _ _ rfl rfl cur 2 HCUR.out (ints ((List.range k).map f)) ?a1 ?a2 ?a3 ints_one ?_)
      case a1 => simp [ints]
      case a2 =>
        intro j v hj
        rw [addr_plain, Nat.zero_add, cell_of HG.out j, ← Array.getElem?_toList, fillA_done]
        exact hj
      case a3 =>
        have := HCS.out
        have := HC.out.le
        rw [HL.out] at this
        simp only [ints, List.length_map, List.length_range]
        omega
      go_ret
      refine .inl ⟨map_all HFIT.out, rfl, ?_, ?_⟩
      · exact HH.out.row hEw HB.out HC.out HCUR.out HCS.out (by rw [HL.out]; simp)
      · exact mod_row (hEw.mod _) _
theorem Minus_fit (a b : Int) (ha : I64 a) (hb : I64 b) (h : I64 (a - b)) (w : World) :
    Calls Try.prog 103 #[.int .i64 a, .int .i64 b] w fun e w' => e = .returned (.tuple #[.int .i64 (a - b), .bool true]) ∧ Ext w w' :=
  (Minus_c a b ha hb w).mono fun _ _ ⟨he, hx⟩ => ⟨by rw [he, fitN, fitB_yes h]; rfl, hx⟩
theorem Minus_no (a b : Int) (ha : I64 a) (hb : I64 b) (h : ¬ I64 (a - b)) (w : World) :
    Calls Try.prog 103 #[.int .i64 a, .int .i64 b] w fun e w' => e = .returned (.tuple #[.int .i64 0, .bool false]) ∧ Ext w w' :=
  (Minus_c a b ha hb w).mono fun _ _ ⟨he, hx⟩ => ⟨by rw [he, fitN, fitB_no h]; rfl, hx⟩
set_option maxRecDepth 20000 in
set_option maxHeartbeats 2000000 in
theorem allMinus_c (b c b2 c2 R W : Nat) (l l2 : List Int) (w : World) (h : GAt w b c R W l) (h2 : GAt w b2 c2 R W l2) (hI : allI l) (hI2 : allI l2) :
    Calls Try.prog 95 #[.agg #[.pointer (some ⟨b, 0, none⟩), .func (.func 103) #[] #[]], .pointer (some ⟨b2, 0, none⟩)] w (JoinPost w b c R W (minusL l l2)) := by
  obtain ⟨cap, hb, hc⟩ := h.ex
  obtain ⟨cap2, hb2, hc2⟩ := h2.ex
  have hl := h.len
  have hl2 := h2.len
  have hN1 : R * W ≤ 1024 := Nat.le_trans (Nat.mul_le_mul h.r2 h.w2) (by decide)
  have hN2 : 1 ≤ R * W := Nat.mul_pos h.r1 h.w1
  have hLL : minusL l l2 = (List.range l.length).map fun k => l.getD k 0 - l2.getD k 0 := rfl
  rw [hLL]
  have HB := Lib.hid hb
  rw [hl] at hb ⊢
  rw [hl2] at hb2
  generalize hNN : R * W = N at *
  obtain ⟨f, hf⟩ : ∃ f : Nat → Int, f = fun k => l.getD k 0 - l2.getD k 0 := ⟨_, rfl⟩
  rw [← hf]
  have HF := Lib.hid hf
  have HL := Lib.hid hl
  have HL2 := Lib.hid hl2
  have HNN := Lib.hid hNN
  have e0 := (cell_of hb 0).trans rfl
  have e1 := (cell_of hb 1).trans rfl
  have e2 := (cell_of hb 2).trans rfl
  have k0 := (cell_of hb2 0).trans rfl
  have k1 := (cell_of hb2 1).trans rfl
  have k2 := (cell_of hb2 2).trans rfl
  have ltb := h.ltb
  have ltc := h.ltc
  have ltb2 := h2.ltb
  have ltc2 := h2.ltc
  obtain ⟨ii, hi, hz0, hz1, hz2⟩ := info_parts info_i64
  have hmk := fun (x : World) => run_make_ints 32 2 ii Try.underlying32 hi hz0 hz1 hz2 N (by omega) f x
  have HH := Lib.hid h
  have HH2 := Lib.hid h2
  have HC := Lib.hid hc
  have HC2 := Lib.hid hc2
  clear hf hl hl2 hNN hb hb2 h h2 hc hc2 hLL hi hz0 hz1 hz2
  go_enter Try.func95, Try.ntmps95
  go_wp2_with fail
  refine wp_region_after (by kernel_rfl) (by kernel_rfl) ?_
  repeat (go_big_quiet_step (fail))
  refine wpQuiet_nil ?_
  rintro _ ⟨xx, rfl⟩
  obtain ⟨w1, hb1⟩ := xx
  try dsimp only
  have hj0 : w1.cell? ⟨w.heap.size, 0, none⟩ = some (.pointer (some ⟨b, 0, none⟩)) := by rw [(bcell hb1).1 _ _ (by rw [size_alloc]; omega)]; simp [go_sem]
  have hj1 : w1.cell? ⟨w.heap.size, 1, none⟩ = some (.func (.func 103) #[] #[]) := by rw [(bcell hb1).1 _ _ (by rw [size_alloc]; omega)]; simp [go_sem]
  have hbs := hb1.size
  rw [size_alloc] at hbs
  have hE : Ext w w1 := by (repeat' (first | exact Ext.refl _ | assumption | apply Ext.allocR | apply Ext.drewR | apply Ext.drewNR | (refine Ext.trans' ?_ (by assumption))))
  clear hb1
  have e2' := ((bcell hE).1 _ _ ltb).trans e2
  have k2' := ((bcell hE).1 _ _ ltb2).trans k2
  have lb1 : b < w1.heap.size := Nat.lt_of_lt_of_le ltb hE.size
  have lb2 : b2 < w1.heap.size := Nat.lt_of_lt_of_le ltb2 hE.size
  clear e0 e1 k0 k1 e2 k2
  go_wp2_with fail
  clear hmk
  go_loopw [48] (fun u48 wr => ∃ k : Nat, k ≤ N ∧ u48 = .int .i64 k ∧ (∀ j, j < k → I64 (f j)) ∧ Ext w1 wr ∧ w1.heap.size < wr.heap.size ∧ wr.heap[w1.heap.size]? = some (.cells (fillA f k N) 2 (0, 0))) (fun u48 _ => N - (intOf u48).toNat)
  case atStart => exact ⟨0, Nat.zero_le _, rfl, fun j hj => absurd hj (Nat.not_lt_zero j), Ext.alloc' _ _, by rw [size_alloc]; omega, heap_at _ _ rfl⟩
  case round =>
    obtain ⟨k, hk, rfl, hfit, hx, hsz, hg2⟩ := hrel
    have HFIT := Lib.hid hfit
    clear hfit
    have hEw : Ext w wr := hE.trans' hx
    have j0 := ((bcell hx).1 _ 0 (show w.heap.size < w1.heap.size by omega)).trans hj0
    have j1 := ((bcell hx).1 _ 1 (show w.heap.size < w1.heap.size by omega)).trans hj1
    have g2 := ((bcell hx).1 _ 2 (show b < w1.heap.size by omega)).trans e2'
    have m2 := ((bcell hx).1 _ 2 (show b2 < w1.heap.size by omega)).trans k2'
    have s0 : w.heap.size < wr.heap.size := by omega
    have s1 : b < wr.heap.size := by omega
    have s2 : b2 < wr.heap.size := by omega
    have s3 : c < wr.heap.size := by omega
    have s4 : c2 < wr.heap.size := by omega
    by_cases hlt : k < N
    · have x0 := ((bcell hEw).1 _ k ltc).trans (HC.out.cell (i := k) (by rw [HL.out]; exact hlt))
      have x1 := ((bcell hEw).1 _ k ltc2).trans (HC2.out.cell (i := k) (by rw [HL2.out]; exact hlt))
      have hfk : f k = l.getD k 0 - l2.getD k 0 := by rw [HF.out]
      have i0 := getD_i64 hI k
      have i1 := getD_i64 hI2 k
      generalize l.getD k 0 = a at *
      generalize l2.getD k 0 = a2 at *
      obtain ⟨v0, d0⟩ : ∃ v0, wr.cell? ⟨w1.heap.size, k, none⟩ = some v0 := ⟨_, (cell_of hg2 k).trans (fillA_at _ _ _ _ hlt)⟩
      have d1 := frozen_of hg2 k
      have HG := Lib.hid hg2
      clear hg2
      by_cases hf : I64 (a - a2)
      · have HFK := Lib.hid hfk
        have HFI := Lib.hid hf
        clear hfk hf
        go_wp2_with fail
        refine wp_region_after (by kernel_rfl) (by kernel_rfl) ?_
        repeat (go_big_quiet_step ((go_at_call 103; exact quiet_after (Minus_fit a a2 i0 i1 HFI.out _))))
        refine wpQuiet_nil ?_
        rintro _ ⟨xx, rfl⟩
        obtain ⟨w5, hb5⟩ := xx
        try dsimp only
        have d0' := ((bcell hb5).1 _ _ hsz).trans d0
        have d1' := ((bcell hb5).2 _ _ hsz).trans d1
        have hg5 := (hb5.block _ hsz).trans HG.out
        have HG5 := Lib.hid hg5
        have hx5 := hx.trans' hb5
        have hs5 := hb5.size
        clear hg5 d0 d1
        go_wp2_with fail
        go_roundw
        case rel =>
          refine ⟨k + 1, by omega, by go_num, fun j hj => ?_, hx5.setR (Nat.le_refl _) _, by rw [size_setCell]; omega, ?_⟩
          · by_cases hjk : j < k
            · exact HFIT.out j hjk
            · obtain rfl : j = k := by omega
              rw [HFK.out]; exact HFI.out
          · rw [setCell_same HG5.out, ← fillA_set, HFK.out]
        case measure => simp [intOf]; omega
      · have HFK := Lib.hid hfk
        have HFI := Lib.hid hf
        clear hfk hf
        go_wp2_with fail
        refine wp_region_after (by kernel_rfl) (by kernel_rfl) ?_
        repeat (go_big_quiet_step ((go_at_call 103; exact quiet_after (Minus_no a a2 i0 i1 HFI.out _))))
        refine wpQuiet_nil ?_
        rintro _ ⟨xx, rfl⟩
        obtain ⟨w5, hb5⟩ := xx
        try dsimp only
        go_wp2_with fail
        go_ret
        refine .inr ⟨?_, rfl, hEw.trans' hb5⟩
        exact map_not hlt (by rw [HFK.out]; exact HFI.out)
    · have HG := Lib.hid hg2
      clear hg2
      obtain rfl : k = N := by omega
      obtain ⟨cur, hcur, hcs, hct⟩ := (HC.out.keep (hEw.block c ltc)).ex
      have HCUR := Lib.hid hcur
      have HCS := Lib.hid hcs
      clear hcur hcs hct
      go_wp2_with (with_reducible refine wpList_copy_own rfl _ _ 32 32 rfl 2 Try.underlying32 (by kernel_rfl) c 0 _ _ ⟨w1.heap.size, 0, none⟩ _ _ rfl rfl cur 2 HCUR.out (ints ((List.range k).map f)) ?a1 ?a2 ?a3 ints_one ?_)
      case a1 => simp [ints]
      case a2 =>
        intro j v hj
        rw [addr_plain, Nat.zero_add, cell_of HG.out j, ← Array.getElem?_toList, fillA_done]
        exact hj
      case a3 =>
        have := HCS.out
        have := HC.out.le
        rw [HL.out] at this
        simp only [ints, List.length_map, List.length_range]
        omega
      go_ret
      refine .inl ⟨map_all HFIT.out, rfl, ?_, ?_⟩
      · exact HH.out.row hEw HB.out HC.out HCUR.out HCS.out (by rw [HL.out]; simp)
      · exact mod_row (hEw.mod _) _
end Go.Proofs.Ythancaehlijaoaa
