/- conserve.Raise lets the cells that columns name rise. -/
import Derived.Test.YthancaehlijaoaaLeast
namespace Go.Proofs.Ythancaehlijaoaa
open Go.RowKit

def RisePost (w : World) (b c R W : Nat) (l : List Int) (i : Nat) (n : Int) (e : Ending) (w' : World) : Prop :=
  e = .returned (.tuple #[]) ∧ GAt w' b c R W (l.set i (max (l.getD i 0) n)) ∧ Mod (fun k => k = c) w w'
theorem set_self {l : List Int} {i : Nat} : l.set i (l.getD i 0) = l := by
  apply List.ext_getElem
  · simp
  · intro j h1 h2
    rw [List.getElem_set]
    by_cases e : i = j
    · subst e; simp [h2]
    · rw [if_neg e]
set_option maxRecDepth 20000 in
set_option maxHeartbeats 1000000 in
theorem rise_c (b c R W : Nat) (l : List Int) (w : World) (h : GAt w b c R W l) (r k : Nat) (hr : r < R) (hk : k < W) (n : Int) (b1 b2 : Nat)
    (k1 : w.cell? ⟨b1, 0, none⟩ = some (.pointer (some ⟨b, 0, none⟩))) (k2 : w.cell? ⟨b2, 0, none⟩ = some (.int .i64 n)) (l1 : b1 < w.heap.size) (l2 : b2 < w.heap.size) :
    Calls Try.prog 97 #[.int .i64 r, .int .i64 k, .pointer (some ⟨b1, 0, none⟩), .pointer (some ⟨b2, 0, none⟩)] w (RisePost w b c R W l (r * W + k) n) := by
  have hi : r * W + k < l.length := by rw [h.len]; exact idx_lt hr hk
  generalize hy : l.getD (r * W + k) 0 = y
  have HY := Lib.hid hy
  clear hy
  by_cases hlt : y < n
  · have hd : decide (y < n) = true := by simp [hlt]
    go_enter Try.func97, Try.ntmps97
    go_wp2
    refine wp_region_after (by kernel_rfl) (by kernel_rfl) ?_
    repeat (go_big_quiet_step ((go_at_call 98; exact quiet_after_same (v := .int .i64 y) ((At_c b c R W l _ (h.ext (After.h _)) r k hr hk).mono (fun e w' hh => ⟨by rw [hh.1, HY.out], hh.2⟩)))))
    refine wpQuiet_nil ?_
    rintro _ ⟨xx, rfl⟩
    obtain ⟨w1, hb1⟩ := xx
    try dsimp only
    have h1 := h.ext hb1
    obtain ⟨hc1, hc2⟩ := bcell hb1
    go_wp2_with fail
    refine (Put_c b c R W l _ h1 r k hr hk n).mono ?_
    rintro e w' ⟨rfl, rfl⟩
    go_wp2
    go_end0
    refine ⟨rfl, ?_, (hb1.mod _).trans (mod_set _ _ _ _)⟩
    rw [HY.out, show max y n = n by omega]
    exact h1.set hi n
  · have hd : decide (y < n) = false := by simp; omega
    go_enter Try.func97, Try.ntmps97
    go_wp2
    refine wp_region_after (by kernel_rfl) (by kernel_rfl) ?_
    repeat (go_big_quiet_step ((go_at_call 98; exact quiet_after_same (v := .int .i64 y) ((At_c b c R W l _ (h.ext (After.h _)) r k hr hk).mono (fun e w' hh => ⟨by rw [hh.1, HY.out], hh.2⟩)))))
    refine wpQuiet_nil ?_
    rintro _ ⟨xx, rfl⟩
    obtain ⟨w1, hb1⟩ := xx
    try dsimp only
    go_wp2
    go_end0
    refine ⟨rfl, ?_, hb1.mod _⟩
    rw [HY.out, show max y n = l.getD (r * W + k) 0 by rw [HY.out]; omega, set_self]
    exact h.ext hb1
def RaisePost (w : World) (b c R W : Nat) (cs l : List Int) (d : Int) (e : Ending) (w' : World) : Prop :=
  (d < 0 ∧ e = .returned (.int .i64 3) ∧ Ext w w') ∨ ∃ x, IsKth (readL W l cs) 0 x ∧ 0 ≤ d ∧
    ((I64 (x + d) ∧ e = .returned (.int .i64 0) ∧ GAt w' b c R W (putK W cs (fun k => max (l.getD (at_ W cs k) 0) (x + d)) R l) ∧ Mod (fun k => k = c) w w') ∨
     (¬ I64 (x + d) ∧ e = .returned (.int .i64 4) ∧ Ext w w'))
theorem putK_far {W : Nat} {cs : List Int} {f : Nat → Int} {R : Nat} (hm : Meets R W cs) (l : List Int) {j : Nat} (hj : j < R) : ∀ k, k ≤ j → (putK W cs f k l).getD (at_ W cs j) 0 = l.getD (at_ W cs j) 0 := by
  intro k
  induction k with
  | zero => intro _; rfl
  | succ k ih =>
    intro hk
    have h1 := hm.hi k (by omega)
    have h2 := hm.lo k (by omega)
    have h3 : at_ W cs k < at_ W cs j := by
      unfold at_
      have : k * W + W ≤ j * W := by
        have := Nat.mul_le_mul_right W (show k + 1 ≤ j by omega)
        rw [Nat.add_mul, Nat.one_mul] at this; exact this
      omega
    rw [putK]
    simp only [List.getD_eq_getElem?_getD]
    rw [List.getElem?_set_ne (by omega)]
    have := ih (by omega)
    simpa only [List.getD_eq_getElem?_getD] using this
set_option maxRecDepth 20000 in
set_option maxHeartbeats 2000000 in
theorem Raise_c (b c R W : Nat) (l cs : List Int) (v : Value) (d : Int) (w : World) (h : GAt w b c R W l) (hI : ∀ x ∈ l, I64 x) (hd : I64 d) (hv : IntsAt w v cs) (hm : Meets R W cs)
    (hne : ∀ g off n cap, v = .slice (some ⟨g, off, none⟩) n cap → g ≠ c) :
    Calls Try.prog 73 #[.pointer (some ⟨b, 0, none⟩), v, .int .i64 d] w (RaisePost w b c R W cs l d) := by
  have r1 := h.r1
  have r2 := h.r2
  obtain ⟨g, off, cap, rfl, hg, hc⟩ := hv.slice (by rw [hm.len]; omega)
  have hgc := hne _ _ _ _ rfl
  rw [hm.len] at hc hv ⊢
  have HV := Lib.hid hv
  have HC := Lib.hid hc
  have hcl := h.ltc
  clear hc hv hne
  by_cases hd0 : d < 0
  · have hdb : decide (d < 0) = true := by simp [hd0]
    go_enter Try.func73, Try.ntmps73
    go_wp2_with fail
    refine (Least_c b c R W l cs _ _ (h.ext (Ext.alloc' _ _)) (HV.out.ext (Ext.alloc' _ _)) hm).mono ?_
    rintro e w1 ⟨x, rfl, hk, hx⟩
    go_wp2
    go_ret
    exact .inl ⟨hd0, rfl, by (repeat' (first | exact Ext.refl _ | assumption | apply Ext.allocR | apply Ext.drewR | apply Ext.drewNR | (refine Ext.trans' ?_ (by assumption))))⟩
  · have hdb : decide (d < 0) = false := by simp; omega
    have hdn : 0 ≤ d := by omega
    go_enter Try.func73, Try.ntmps73
    go_wp2_with fail
    refine (Least_c b c R W l cs _ _ (h.ext (Ext.alloc' _ _)) (HV.out.ext (Ext.alloc' _ _)) hm).mono ?_
    rintro e w1 ⟨x, rfl, hk, hx⟩
    have hxI : I64 x := by
      have hmem : x ∈ readL W l cs := sameN_pos (by have := hk.1; have := hk.2; omega)
      simp only [readL, List.mem_map, List.mem_range] at hmem
      obtain ⟨j, _, rfl⟩ := hmem
      exact getD_i64 hI _
    by_cases hfit : I64 (x + d)
    · have fb := fitB_yes hfit
      have fn := fitN_yes hfit
      go_wp2_with fail
      refine (Plus_c x d hxI hd _).mono ?_
      rintro e w2 ⟨rfl, hx2⟩
      have k1 : w1.cell? ⟨w.heap.size, 0, none⟩ = some (.pointer (some ⟨b, 0, none⟩)) := by rw [(bcell hx).1 _ _ (by simp [go_sem])]; simp [go_sem]
      have hs1 : w.heap.size < w1.heap.size := by have := hx.size; simp only [size_alloc] at this; omega
      have hs2 := hx2.size
      have k2 := ((bcell hx2).1 w.heap.size 0 hs1).trans k1
      have hw2 : Ext w w2 := by (repeat' (first | exact Ext.refl _ | assumption | apply Ext.allocR | apply Ext.drewR | apply Ext.drewNR | (refine Ext.trans' ?_ (by assumption))))
      clear k1
      go_wp2
      have hE : Ext w (w2.alloc (.cells #[.int .i64 (x + d)] 2)) := hw2.allocR _
      have hG0 : GAt (w2.alloc (.cells #[.int .i64 (x + d)] 2)) b c R W (putK W cs (fun k => max (l.getD (at_ W cs k) 0) (x + d)) 0 l) := h.ext hE
      have q1 : (w2.alloc (.cells #[.int .i64 (x + d)] 2)).cell? ⟨w.heap.size, 0, none⟩ = some (.pointer (some ⟨b, 0, none⟩)) := by
        rw [World.cell?_alloc_lt _ _ _ (by show w.heap.size < _; omega)]; exact k2
      have q2 : (w2.alloc (.cells #[.int .i64 (x + d)] 2)).cell? ⟨w2.heap.size, 0, none⟩ = some (.int .i64 (x + d)) := (cell_of (heap_at _ _ rfl) 0).trans rfl
      have q3 : w2.heap.size < (w2.alloc (.cells #[.int .i64 (x + d)] 2)).heap.size := by rw [size_alloc]; omega
      have HK := Lib.hid (And.intro q1 (And.intro q2 (And.intro hE (And.intro hG0 q3))))
      clear q1 q2 hE hG0 q3
      generalize w2.alloc (.cells #[.int .i64 (x + d)] 2) = wl at HK
      obtain ⟨q1, q2, hE, hG0, q3⟩ := HK.out
      have hM0 : Mod (fun i => i = c) wl wl := Mod.refl _ _
      have hEs := hE.size
      go_loopw [36] (fun u wr => ∃ k : Nat, k ≤ R ∧ u = .int .i64 k ∧ Mod (fun i => i = c) wl wr ∧ GAt wr b c R W (putK W cs (fun k => max (l.getD (at_ W cs k) 0) (x + d)) k l)) (fun u _ => R - (intOf u).toNat)
      case atStart => exact ⟨0, Nat.zero_le _, rfl, hM0, hG0⟩
      case round =>
        clear hM0 hG0
        obtain ⟨k, hk2, rfl, hM, hG⟩ := hrel
        by_cases hlt : k < R
        · have dc := ((mcell hM (by omega) hgc (off + k)).trans ((bcell hE).1 g (off + k) hg)).trans (HC.out k hlt)
          have p1 := (mcell hM (b := w.heap.size) (by omega) (by omega) 0).trans q1
          have p2 := (mcell hM (b := w2.heap.size) (by omega) (by omega) 0).trans q2
          have hMs := hM.size
          have l1 := hm.lo k hlt
          have l2 := hm.hi k hlt
          have hat : at_ W cs k = k * W + (cs.getD k 0).toNat := rfl
          have HA := Lib.hid hat
          clear hat q1 q2
          generalize cs.getD k 0 = y at dc l1 l2 HA
          obtain ⟨y, rfl⟩ := Int.eq_ofNat_of_zero_le l1
          have hyW : y < W := by omega
          go_wp2_with fail
          refine (rise_c b c R W _ _ hG k y hlt hyW (x + d) w.heap.size w2.heap.size p1 p2 (by omega) (by omega)).mono ?_
          rintro e w' ⟨rfl, hG2, hM2⟩
          go_wp2
          go_roundw
          case rel =>
            refine ⟨k + 1, by omega, by go_num, hM.trans hM2, ?_⟩
            have e1 : at_ W cs k = k * W + y := HA.out
            have e2 := putK_far (f := fun k => max (l.getD (at_ W cs k) 0) (x + d)) hm l hlt k (Nat.le_refl _)
            show GAt _ b c R W ((putK W cs _ k l).set (at_ W cs k) (max (l.getD (at_ W cs k) 0) (x + d)))
            rw [← e2, e1]
            exact hG2
          case measure => simp [intOf]; omega
        · go_wp2
          go_ret
          obtain rfl : k = R := by omega
          exact .inr ⟨x, hk, hdn, .inl ⟨hfit, rfl, hG, (hE.mod _).trans hM⟩⟩
    · have fb := fitB_no hfit
      go_wp2_with fail
      refine (Plus_c x d hxI hd _).mono ?_
      rintro e w2 ⟨rfl, hx2⟩
      go_wp2
      go_ret
      exact .inr ⟨x, hk, hdn, .inr ⟨hfit, rfl, by (repeat' (first | exact Ext.refl _ | assumption | apply Ext.allocR | apply Ext.drewR | apply Ext.drewNR | (refine Ext.trans' ?_ (by assumption))))⟩⟩
end Go.Proofs.Ythancaehlijaoaa
