/- The calls of package linear over a grid and columns that meet it. -/
import Derived.Test.YthancaehlijaoaaKth
import Derived.Test.YthancaehlijaoaaGrid2
namespace Go.Proofs.Ythancaehlijaoaa
open Go.RowKit

/-- Columns that name a cell of each row. -/
structure Meets (R W : Nat) (cs : List Int) : Prop where
  len : cs.length = R
  lo : ∀ k, k < R → 0 ≤ cs.getD k 0
  hi : ∀ k, k < R → cs.getD k 0 < W
def at_ (W : Nat) (cs : List Int) (k : Nat) : Nat := k * W + (cs.getD k 0).toNat
def readL (W : Nat) (l cs : List Int) : List Int := (List.range cs.length).map fun k => l.getD (at_ W cs k) 0
theorem readL_len (W : Nat) (l cs : List Int) : (readL W l cs).length = cs.length := by simp [readL]
theorem readL_get {W : Nat} {l cs : List Int} {k : Nat} (h : k < cs.length) : (readL W l cs).getD k 0 = l.getD (at_ W cs k) 0 := by
  simp [readL, h]
theorem Meets.at_lt {R W : Nat} {cs : List Int} (h : Meets R W cs) {k : Nat} (hk : k < R) : at_ W cs k < R * W := by
  have h1 := h.lo k hk
  have h2 := h.hi k hk
  exact idx_lt hk (by omega)
theorem IntsAt.slice {w : World} {v : Value} {xs : List Int} (h : IntsAt w v xs) (hx : 0 < xs.length) : ∃ g off cap, v = .slice (some ⟨g, off, none⟩) xs.length cap ∧ g < w.heap.size ∧ ∀ k, k < xs.length → w.cell? ⟨g, off + k, none⟩ = some (.int .i64 (xs.getD k 0)) := by
  rcases h with ⟨_, rfl⟩ | h
  · simp at hx
  · exact h
set_option maxRecDepth 20000 in
set_option maxHeartbeats 2000000 in
theorem meet_c (b c R W : Nat) (l cs : List Int) (v : Value) (w : World) (h : GAt w b c R W l) (hv : IntsAt w v cs) (hm : Meets R W cs) :
    Calls Try.prog 107 #[.pointer (some ⟨b, 0, none⟩), v] w fun e w' => e = .returned (.bool true) ∧ w = w' := by
  have r1 := h.r1
  have r2 := h.r2
  obtain ⟨g, off, cap, rfl, hg, hc⟩ := hv.slice (by rw [hm.len]; omega)
  rw [hm.len] at *
  have HC := Lib.hid hc
  have g1 : decide ((R : Int) < 1) = false := by simp; omega
  clear hc
  go_enter Try.func107, Try.ntmps107
  go_wp2_with (go_at_call 120; refine (Rows_c b c R W l _ h).mono ?_; rintro e w' ⟨rfl, rfl⟩)
  go_loop [23] (fun u => ∃ k : Nat, k ≤ R ∧ u = .int .i64 k) (fun u => R - (intOf u).toNat)
  case atStart => exact ⟨0, Nat.zero_le _, rfl⟩
  case round =>
    obtain ⟨k, hk, rfl⟩ := hrel
    by_cases hlt : k < R
    · have d := HC.out k hlt
      have l1 := hm.lo k hlt
      have l2 := hm.hi k hlt
      generalize cs.getD k 0 = y at d l1 l2
      have g2 : decide (y < 0) = false := by simp; omega
      have g3 : decide ((W : Int) ≤ y) = false := by simp; omega
      go_wp2_with (go_at_call 121; refine (Width_c b c R W l _ h).mono ?_; rintro e w' ⟨rfl, rfl⟩)
      go_round
      case rel => exact ⟨k + 1, by omega, by go_num⟩
      case measure => simp [intOf]; omega
    · go_wp2
      go_ret
      exact ⟨rfl, rfl⟩
def ReadPost (w : World) (W : Nat) (l cs : List Int) (e : Ending) (w' : World) : Prop :=
  ∃ v, e = .returned (.tuple #[v, .int .i64 0]) ∧ w'.ownsRow w.heap.size 2 1 v cs.length (ints (readL W l cs)) ∧ Ext w w'
set_option maxRecDepth 20000 in
set_option maxHeartbeats 2000000 in
theorem Read_c (b c R W : Nat) (l cs : List Int) (v : Value) (w : World) (h : GAt w b c R W l) (hv : IntsAt w v cs) (hm : Meets R W cs) :
    Calls Try.prog 83 #[.pointer (some ⟨b, 0, none⟩), v] w (ReadPost w W l cs) := by
  have r1 := h.r1
  have r2 := h.r2
  obtain ⟨g, off, cap, rfl, hg, hc⟩ := hv.slice (by rw [hm.len]; omega)
  have HL := Lib.hid hm.len
  rw [hm.len] at hc hv ⊢
  have HV := Lib.hid hv
  have HC := Lib.hid hc
  obtain ⟨ii, hi, hz0, hz1, hz2⟩ := info_parts info_i64
  have hmk := fun (x : World) => run_make_ints 32 2 ii Try.underlying32 hi hz0 hz1 hz2 R (by omega) (fun k => l.getD (at_ W cs k) 0) x
  clear hc hi hz0 hz1 hz2 hv
  go_enter Try.func83, Try.ntmps83
  go_wp2_with (go_at_call 107; refine (meet_c b c R W l cs _ _ h HV.out hm).mono ?_; rintro e w' ⟨rfl, rfl⟩)
  clear hmk
  go_loopw [18] (fun u wr => ∃ k : Nat, k ≤ R ∧ u = .int .i64 k ∧ Ext w wr ∧ w.heap.size < wr.heap.size ∧ wr.heap[w.heap.size]? = some (.cells (fillA (fun k => l.getD (at_ W cs k) 0) k R) 2 (0, 0))) (fun u _ => R - (intOf u).toNat)
  case atStart => exact ⟨0, Nat.zero_le _, rfl, Ext.alloc' _ _, by rw [size_alloc]; omega, heap_at _ _ rfl⟩
  case round =>
    obtain ⟨k, hk, rfl, hx, hsz, hg2⟩ := hrel
    by_cases hlt : k < R
    · have d := ((bcell hx).1 g (off + k) hg).trans (HC.out k hlt)
      have l1 := hm.lo k hlt
      have l2 := hm.hi k hlt
      have hat : at_ W cs k = k * W + (cs.getD k 0).toNat := rfl
      have HA := Lib.hid hat
      clear hat
      generalize cs.getD k 0 = y at d l1 l2 HA
      obtain ⟨y, rfl⟩ := Int.eq_ofNat_of_zero_le l1
      obtain ⟨v0, d0⟩ : ∃ v0, wr.cell? ⟨w.heap.size, k, none⟩ = some v0 := ⟨_, (cell_of hg2 k).trans (fillA_at _ _ _ _ hlt)⟩
      have d1 := frozen_of hg2 k
      have HG := Lib.hid hg2
      clear hg2
      go_wp2_with (go_at_call 98; refine (At_c b c R W l _ (h.ext hx) k y hlt (by omega)).mono ?_; rintro e w' ⟨rfl, rfl⟩)
      go_roundw
      case rel =>
        refine ⟨k + 1, by omega, by go_num, hx.setR (Nat.le_refl _) _, by rw [size_setCell]; exact hsz, ?_⟩
        have e1 : at_ W cs k = k * W + y := HA.out
        rw [setCell_same HG.out, ← fillA_set, e1]
        rfl
      case measure => simp [intOf]; omega
    · have HG := Lib.hid hg2
      clear hg2
      go_wp2
      go_ret2
      obtain rfl : k = R := by omega
      refine ⟨_, rfl, ?_, hx⟩
      rw [HL.out]
      exact ownsRow_of HG.out (Nat.le_refl _) (Nat.le_refl _) (by unfold maxLen; omega) (fillA_size _ _ _) (by rw [fillA_done]; unfold readL; rw [HL.out]; exact List.take_of_length_le (by simp [ints]))
end Go.Proofs.Ythancaehlijaoaa
