/- Part. No condition. -/
import Derived.Test.YtfhdjekpdifajaaGreatDSummaryFirst6
import Derived.Sort.Defs
import Derived.Sort.LotA
namespace Go.Proofs.YtfhdjekpdifajaaGreat
set_option linter.unusedVariables false
open Go.RowKit
/-- Comes one ahead of the other? -/
def ltC (x y : Fd) : Bool := decide (cmpV x.2.1 x.2.2 y.2.1 y.2.2 < 0)
/-- A row of the call's own, as it stands; whatever lay ahead of its base lies as it was. -/
structure RowD (base g cap : Nat) (w0 w : World) (d : Array Fd) : Prop where
  own : w.ownsRow base 130 3 (.slice (some ⟨g, 0, none⟩) d.size cap) d.size (fdV d.toList)
  ext : ∀ v : World, Ext v w0 → v.heap.size ≤ base → Ext v w
theorem RowD.step {base g cap : Nat} {w0 w w' : World} {d : Array Fd} (h : RowD base g cap w0 w d) (hE : Ext w w') : RowD base g cap w0 w' d :=
  ⟨own_ext h.own hE, fun v h1 h2 => (h.ext v h1 h2).trans' hE⟩
theorem RowD.blk {base g cap : Nat} {w0 w : World} {d : Array Fd} (h : RowD base g cap w0 w d) : ∃ cur, w.heap[g]? = some (.cells cur 130 (0, 0)) ∧ cur.size = cap * 3 ∧ d.size ≤ cap ∧ base ≤ g := by
  obtain ⟨gg, cc, cur, hv, hb, hh, hcc, _, hcs, _⟩ := h.own.2.resolve_left (fun h => by cases h.1)
  cases hv
  exact ⟨cur, hh, hcs, hcc, hb⟩
theorem RowD.cells {base g cap : Nat} {w0 w : World} {d : Array Fd} (h : RowD base g cap w0 w d) {k : Nat} (hk : k < d.size) :
    w.cell? ⟨g, k * 3, none⟩ = some (.int .i64 (d[k]!.1 : Int)) ∧ w.cell? ⟨g, k * 3 + 1, none⟩ = some (.int .u64 d[k]!.2.1) ∧ w.cell? ⟨g, k * 3 + 2, none⟩ = some (.int .i64 d[k]!.2.2) := by
  obtain ⟨g', cap2, hv, _, hg', hcell⟩ := own_row_cells h.own (by omega)
  cases hv
  have hcs := fdV_getAt (D := d.toList) (k := k) (by rw [Array.length_toList]; exact hk)
  rw [Array.getElem_toList, ← getElem!_pos d k hk] at hcs
  exact ⟨(hcell (k * 3) (by omega)).trans hcs.1, (hcell (k * 3 + 1) (by omega)).trans hcs.2.1, (hcell (k * 3 + 2) (by omega)).trans hcs.2.2⟩
theorem RowD.put {base g cap : Nat} {w0 w : World} {d : Array Fd} (h : RowD base g cap w0 w d) {i : Nat} (hi : i < d.size) (f : Fd) :
    RowD base g cap w0 (((w.setCell ⟨g, i * 3, none⟩ (.int .i64 (f.1 : Int))).setCell ⟨g, i * 3 + 1, none⟩ (.int .u64 f.2.1)).setCell ⟨g, i * 3 + 2, none⟩ (.int .i64 f.2.2)) (d.setIfInBounds i f) := by
  obtain ⟨_, _, _, _, hb⟩ := h.blk
  refine ⟨?_, fun v h1 h2 => (((h.ext v h1 h2).setR (p := ⟨g, i * 3, none⟩) (by show _ ≤ g; omega) _).setR (p := ⟨g, i * 3 + 1, none⟩) (by show _ ≤ g; omega) _).setR (p := ⟨g, i * 3 + 2, none⟩) (by show _ ≤ g; omega) _⟩
  rw [Array.size_setIfInBounds, Array.toList_setIfInBounds, fdV_set (by rw [Array.length_toList]; exact hi)]
  exact own_set (own_set (own_set h.own (i * 3) (by omega) _) (i * 3 + 1) (by omega) _) (i * 3 + 2) (by omega) _
theorem RowD.some {base g cap : Nat} {w0 w : World} {d : Array Fd} (h : RowD base g cap w0 w d) {k : Nat} (hk : k < d.size) :
    w.frozen? ⟨g, k * 3, none⟩ = false ∧ w.frozen? ⟨g, k * 3 + 1, none⟩ = false ∧ w.frozen? ⟨g, k * 3 + 2, none⟩ = false ∧ g < w.heap.size := by
  obtain ⟨cur, hh, _, _, _⟩ := h.blk
  exact ⟨frozen_of hh _, frozen_of hh _, frozen_of hh _, lt_of hh⟩
section
open Go.Sort
theorem insOuter_goH {lt : Fd → Fd → Bool} {a b i : Nat} {d : Array Fd} (h : i < b) : insOuter lt a b i d = insOuter lt a b (i + 1) (insInner lt a i d) := by
  conv => lhs; unfold insOuter
  rw [if_pos h]
theorem insOuter_endH {lt : Fd → Fd → Bool} {a b i : Nat} {d : Array Fd} (h : b ≤ i) : insOuter lt a b i d = d := by
  unfold insOuter
  rw [if_neg (by omega)]
theorem insInner_yesH {lt : Fd → Fd → Bool} {a j : Nat} {d : Array Fd} (h : a < j + 1) (h2 : lt d[j + 1]! d[j]! = true) : insInner lt a (j + 1) d = insInner lt a j (swp d (j + 1) j) := by
  conv => lhs; unfold insInner
  rw [if_pos (by simp [h2]; omega)]
theorem insInner_noH {lt : Fd → Fd → Bool} {a : Nat} : ∀ {j : Nat} {d : Array Fd} (h : j ≤ a ∨ ∃ p, j = p + 1 ∧ lt d[p + 1]! d[p]! = false), insInner lt a j d = d
  | 0, d, _ => rfl
  | j + 1, d, h => by
    conv => lhs; unfold insInner
    rw [if_neg]
    rcases h with h | ⟨p, hp, h⟩
    · simp; omega
    · obtain rfl : j = p := by omega
      simp [h]
theorem swp_size (d : Array Fd) (i j : Nat) : (swp d i j).size = d.size := by unfold swp; simp
set_option maxRecDepth 20000 in
set_option maxHeartbeats 8000000 in
theorem Ins_c (base g cap : Nat) (w0 w : World) (d : Array Fd) (a b : Nat) (h : RowD base g cap w0 w d) (hab : a ≤ b) (hb : b ≤ d.size) (hl : d.size ≤ 100000) :
    Calls Tryz.prog 204 #[.slice (some ⟨g, 0, none⟩) d.size cap, .int .i64 a, .int .i64 b, .func (.func 137) #[] #[]] w fun e w' => e = .returned (.tuple #[]) ∧ RowD base g cap w0 w' (insertionSort ltC d a b) := by
  have HH := Lib.hid h
  clear h
  generalize hn : d.size = n at *
  have HN := Lib.hid hn
  clear hn
  go_enter Tryz.func204, Tryz.ntmps204
  go_wp2_with fail
  go_loopw [8] (fun u8 wr => ∃ (i : Nat) (dk : Array Fd), u8 = .int .i64 i ∧ a < i ∧ i ≤ b + 1 ∧ dk.size = n ∧ insOuter ltC a b i dk = insertionSort ltC d a b ∧ RowD base g cap w0 wr dk) (fun u8 _ => b + 1 - (intOf u8).toNat)
  case atStart => exact ⟨a + 1, d, by go_num, by omega, by omega, HN.out, rfl, HH.out⟩
  case round =>
    obtain ⟨i, dk, rfl, hai, hib, hdk, hins, hrow⟩ := hrel
    have HROW := Lib.hid hrow
    have HINS := Lib.hid hins
    clear hrow hins
    by_cases hlt : i < b
    · go_wp2_with fail
      go_loopw [9] (fun u9 wx => ∃ (j : Nat) (dj : Array Fd), u9 = .int .i64 j ∧ a ≤ j ∧ j ≤ i ∧ dj.size = n ∧ insInner ltC a j dj = insInner ltC a i dk ∧ RowD base g cap w0 wx dj) (fun u9 _ => (intOf u9).toNat)
      case atStart => exact ⟨i, dk, rfl, by omega, Nat.le_refl _, hdk, rfl, HROW.out⟩
      case round =>
        clear HROW
        obtain ⟨j, dj, rfl, haj, hji, hdj, hinn, hrow⟩ := hrel
        have HROW := Lib.hid hrow
        have HINN := Lib.hid hinn
        clear hrow hinn
        by_cases hja : a < j
        · obtain ⟨jp, rfl⟩ : ∃ jp, j = jp + 1 := ⟨j - 1, by omega⟩
          have hwp : IntKind.i64.wrap (jp : Int) = (jp : Int) := by rw [IntKind.wrap_i64]; omega
          have jz : (jp : Int) + 1 < (n : Int) := by omega
          have jz1 : (jp : Int) < (n : Int) := by omega
          have hjaz : (a : Int) < (jp : Int) + 1 := by omega
          have p0 : (0 : Int) ≤ (jp : Int) + 1 := by omega
          have e0 : ((jp : Int) + 1).toNat = jp + 1 := by omega
          obtain ⟨x0, x1, x2⟩ := HROW.out.cells (k := jp + 1) (by omega)
          obtain ⟨y0, y1, y2⟩ := HROW.out.cells (k := jp) (by omega)
          obtain ⟨_, _, _, gl⟩ := HROW.out.some (k := jp) (by omega)
          have hstop := insInner_noH (lt := ltC) (a := a) (j := jp + 1) (d := dj)
          have hgo := insInner_yesH (lt := ltC) (a := a) (j := jp) (d := dj) hja
          obtain ⟨fx, hfx⟩ : ∃ f, dj[jp + 1]! = f := ⟨_, rfl⟩
          obtain ⟨fy, hfy⟩ : ∃ f, dj[jp]! = f := ⟨_, rfl⟩
          have HFX := Lib.hid hfx
          have HFY := Lib.hid hfy
          rw [hfx] at x0 x1 x2 hgo
          rw [hfy] at y0 y1 y2 hgo
          have HSTOP := Lib.hid hstop
          have HGO := Lib.hid hgo
          clear hfx hfy hstop hgo
          obtain ⟨la, ia, na⟩ := fx
          obtain ⟨lb, ib, nb⟩ := fy
          dsimp only at x0 x1 x2 y0 y1 y2
          obtain ⟨cv, hcv⟩ : ∃ c, cmpV ia na ib nb = c := ⟨_, rfl⟩
          have hcmp := fun W => TopCmp_c (la : Int) ia na (lb : Int) ib nb W
          rw [hcv] at hcmp
          have HCMP := Lib.hid hcmp
          have HCV := Lib.hid hcv
          clear hcmp hcv
          by_cases hlv : cv < 0
          · have hgo2 := HGO.out (by unfold ltC; rw [HCV.out]; simpa using hlv)
            have HGO2 := Lib.hid hgo2
            clear hgo2 HGO HSTOP
            go_wp2_with fail
            refine wp_region_after (by kernel_rfl) (by kernel_rfl) ?_
            repeat (go_big_quiet_step ((go_at_call 137; exact quiet_after (HCMP.out _))))
            refine wpQuiet_nil ?_
            rintro _ ⟨xx, rfl⟩
            obtain ⟨w1, hb1⟩ := xx
            try dsimp only
            have HR1 := Lib.hid (HROW.out.step hb1)
            clear x0 x1 x2 y0 y1 y2 gl hb1
            obtain ⟨x0, x1, x2⟩ := HR1.out.cells (k := jp + 1) (by omega)
            obtain ⟨y0, y1, y2⟩ := HR1.out.cells (k := jp) (by omega)
            rw [HFX.out] at x0 x1 x2
            rw [HFY.out] at y0 y1 y2
            dsimp only at x0 x1 x2 y0 y1 y2
            obtain ⟨f0, f1, f2, gl⟩ := HR1.out.some (k := jp + 1) (by omega)
            obtain ⟨k0, k1, k2, _⟩ := HR1.out.some (k := jp) (by omega)
            go_wp2_with fail
            have hC0 := af_drew w1
            have HSW := Lib.hid ((HR1.out.put (i := jp + 1) (by omega) (lb, ib, nb)).put (i := jp) (by rw [Array.size_setIfInBounds]; omega) (la, ia, na))
            refine pi_start (fun w' => ∃ x : After w1, w' = x.w) [15,17] (by kernel_rfl) ?_
            refine pi_t 0 rfl (by kernel_rfl) (by kernel_rfl) (fun _ _ _ _ h => h) (fun K hK => ?_)
            go_big_quiet_op
            refine hK _ ?_
            clear hK K
            refine pi_t 1 rfl (by kernel_rfl) (by kernel_rfl) (fun _ _ _ _ h => h) (fun K hK => ?_)
            go_big_quiet_op
            refine hK _ ?_
            clear hK K
            refine pi_t 2 rfl (by kernel_rfl) (by kernel_rfl) (fun _ _ _ _ h => h) (fun K hK => ?_)
            go_big_quiet_op
            refine hK _ ?_
            clear hK K
            refine pi_t 3 rfl (by kernel_rfl) (by kernel_rfl) (fun _ _ _ _ h => h) (fun K hK => ?_)
            go_big_quiet_op
            refine hK _ ?_
            clear hK K
            refine pi_t 4 rfl (by kernel_rfl) (by kernel_rfl) (fun _ _ _ _ h => h) (fun K hK => ?_)
            go_big_quiet_op
            refine hK _ ?_
            clear hK K
            refine pi_t 5 rfl (by kernel_rfl) (by kernel_rfl) (fun _ _ _ _ h => h) (fun K hK => ?_)
            go_big_quiet_op
            refine hK _ ?_
            clear hK K
            refine pi_t 6 rfl (by kernel_rfl) (by kernel_rfl) (fun _ _ _ _ h => h) (fun K hK => ?_)
            go_big_quiet_op
            refine hK _ ?_
            clear hK K
            refine pi_t 7 rfl (by kernel_rfl) (by kernel_rfl) (fun _ _ _ _ h => h) (fun K hK => ?_)
            go_big_quiet_op
            refine hK _ ?_
            clear hK K
            refine pi_t 8 rfl (by kernel_rfl) (by kernel_rfl) (fun _ _ _ _ h => h) (fun K hK => ?_)
            go_big_quiet_op
            refine hK _ ?_
            clear hK K
            refine pi_t 10 rfl (by kernel_rfl) (by kernel_rfl) (fun _ _ _ _ h => h) (fun K hK => ?_)
            go_big_quiet_op
            refine hK _ ?_
            clear hK K
            refine pi_t 11 rfl (by kernel_rfl) (by kernel_rfl) (fun _ _ _ _ h => h) (fun K hK => ?_)
            go_big_quiet_op
            refine hK _ ?_
            clear hK K
            refine pi_t 12 rfl (by kernel_rfl) (by kernel_rfl) (fun _ _ _ _ h => h) (fun K hK => ?_)
            go_big_quiet_op
            refine hK _ ?_
            clear hK K
            refine pi_c 9 (by assumption) rfl (by kernel_rfl) (by kernel_rfl) (fun _ _ _ _ h => h) (fun K hK => ?_)
            go_big_quiet_op
            refine hK _ ?_
            clear hK K
            refine pi_c 13 (by assumption) rfl (by kernel_rfl) (by kernel_rfl) (fun _ _ _ _ h => h) (fun K hK => ?_)
            go_big_quiet_op
            refine hK _ ?_
            clear hK K
            refine pi_t 14 rfl (by kernel_rfl) (by kernel_rfl) (fun _ _ _ _ h => h) (fun K hK => ?_)
            go_big_quiet_op
            refine hK _ ?_
            clear hK K
            refine pi_l 15 rfl (by kernel_rfl) (fun K hK => ?_)
            go_wp2
            refine hK _ _ (by simp) ?_
            clear hK K
            refine pi_t 16 rfl (by kernel_rfl) (by kernel_rfl) (fun _ _ _ _ h => h) (fun K hK => ?_)
            go_big_quiet_op
            refine hK _ ?_
            clear hK K
            refine pi_l 17 rfl (by kernel_rfl) (fun K hK => ?_)
            go_wp2
            refine hK _ _ (by simp) ?_
            clear hK K
            refine pi_end (by kernel_rfl) ?_
            have hfin := HSW.out.step (Below.drew (Ext.refl _))
            rw [show (dj.setIfInBounds (jp + 1) (lb, ib, nb)).setIfInBounds jp (la, ia, na) = swp dj (jp + 1) jp by unfold swp; rw [HFX.out, HFY.out]] at hfin
            have HFIN := Lib.hid hfin
            clear hfin
            go_wp2
            go_roundw
            case rel => exact ⟨jp, swp dj (jp + 1) jp, by go_num, by omega, by omega, by rw [swp_size]; exact hdj, by rw [← HGO2.out]; exact HINN.out, HFIN.out⟩
            case measure => simp [intOf]
          · have hst := HSTOP.out (.inr ⟨jp, rfl, by rw [HFX.out, HFY.out]; unfold ltC; rw [HCV.out]; simpa using hlv⟩)
            have hnext : insOuter ltC a b (i + 1) dj = insertionSort ltC d a b := by rw [← HINS.out, insOuter_goH hlt, ← HINN.out, hst]
            have HNEXT := Lib.hid hnext
            clear hst hnext HGO HSTOP
            go_wp2_with fail
            refine wp_region_after (by kernel_rfl) (by kernel_rfl) ?_
            repeat (go_big_quiet_step ((go_at_call 137; exact quiet_after (HCMP.out _))))
            refine wpQuiet_nil ?_
            rintro _ ⟨xx, rfl⟩
            obtain ⟨w1, hb1⟩ := xx
            try dsimp only
            have HR1 := Lib.hid (HROW.out.step hb1)
            clear x0 x1 x2 y0 y1 y2 gl hb1
            go_wp2
            go_roundw
            case rel => exact ⟨i + 1, dj, by go_num, by omega, by omega, hdj, HNEXT.out, HR1.out⟩
            case measure => simp [intOf]; omega
        · have hst := insInner_noH (lt := ltC) (a := a) (j := j) (d := dj) (.inl (by omega))
          have hnext : insOuter ltC a b (i + 1) dj = insertionSort ltC d a b := by rw [← HINS.out, insOuter_goH hlt, ← HINN.out, hst]
          have HNEXT := Lib.hid hnext
          clear hst hnext
          go_wp2_with fail
          refine wp_region_after (by kernel_rfl) (by kernel_rfl) ?_
          repeat (go_big_quiet_step (fail))
          refine wpQuiet_nil ?_
          rintro _ ⟨xx, rfl⟩
          obtain ⟨w1, hb1⟩ := xx
          try dsimp only
          have HR1 := Lib.hid (HROW.out.step hb1)
          clear hb1
          go_wp2
          go_roundw
          case rel => exact ⟨i + 1, dj, by go_num, by omega, by omega, hdj, HNEXT.out, HR1.out⟩
          case measure => simp [intOf]; omega
    · have hfin : dk = insertionSort ltC d a b := by rw [← HINS.out, insOuter_endH (by omega)]
      have HFIN := Lib.hid hfin
      clear hfin
      go_wp2
      go_end0
      exact ⟨rfl, by rw [← HFIN.out]; exact HROW.out⟩
end
end Go.Proofs.YtfhdjekpdifajaaGreat
