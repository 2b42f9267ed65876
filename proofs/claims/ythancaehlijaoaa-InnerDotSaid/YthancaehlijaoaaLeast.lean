/- linear.Least, Middle, conserve.Raise over a grid and columns that meet it. -/
import Derived.Test.YthancaehlijaoaaChange
namespace Go.Proofs.Ythancaehlijaoaa
open Go.RowKit

set_option maxHeartbeats 1000000 in
theorem Min_c (v : Value) (l : List Int) (w : World) (hv : IntsAt w v l) (h0 : 0 < l.length) (hl : l.length ≤ 1000000) :
    Calls Try.prog 93 #[v] w (KthPost w l 0) := by
  go_enter Try.func93, Try.ntmps93
  go_wp2_with fail
  refine (Kth_c v 0 l _ hv h0 hl).mono ?_
  rintro e w1 ⟨x, rfl, hk, hx⟩
  go_wp2
  go_ret2
  exact ⟨x, rfl, hk, hx⟩
set_option maxHeartbeats 1000000 in
theorem Median_c (v : Value) (l : List Int) (w : World) (hv : IntsAt w v l) (h0 : 0 < l.length) (hl : l.length ≤ 1000000) :
    Calls Try.prog 91 #[v] w (KthPost w l ((l.length - 1) / 2)) := by
  have HV := Lib.hid hv
  obtain ⟨g, off, cap, rfl, _⟩ := hv.slice h0
  have e1 : (((l.length - 1) / 2 : Nat) : Int) = ((l.length : Int) - 1) / 2 := by omega
  have E1 := Lib.hid e1
  clear e1 hv
  generalize hn : l.length = n at *
  have HN := Lib.hid hn
  clear hn
  go_enter Try.func91, Try.ntmps91
  go_wp2_with fail
  rw [← E1.out]
  refine (Kth_c _ ((n - 1) / 2) l _ HV.out (by rw [HN.out]; omega) (by rw [HN.out]; exact hl)).mono ?_
  rintro e w1 ⟨x, rfl, hk, hx⟩
  go_wp2
  go_ret2
  exact ⟨x, rfl, hk, hx⟩
def TellPost (w : World) (W : Nat) (l cs : List Int) (k : Nat) (e : Ending) (w' : World) : Prop := ∃ x, e = .returned (.tuple #[.int .i64 x, .int .i64 0]) ∧ IsKth (readL W l cs) k x ∧ Ext w w'
set_option maxRecDepth 20000 in
set_option maxHeartbeats 1000000 in
theorem of_min (b c R W : Nat) (l cs : List Int) (v : Value) (w : World) (h : GAt w b c R W l) (hv : IntsAt w v cs) (hm : Meets R W cs) :
    Calls Try.prog 92 #[.agg #[.func (.func 93) #[] #[]], .pointer (some ⟨b, 0, none⟩), v] w (TellPost w W l cs 0) := by
  have r1 := h.r1
  have r2 := h.r2
  go_enter Try.func92, Try.ntmps92
  go_wp2_with fail
  refine (Read_c b c R W l cs _ _ (h.ext (Ext.alloc' _ _)) (hv.ext (Ext.alloc' _ _)) hm).mono ?_
  rintro e w1 ⟨v1, rfl, ho, hx1⟩
  obtain ⟨hc1, hc2⟩ := bcell hx1
  have hi := IntsAt.of_row ho
  go_wp2_with fail
  refine (Min_c v1 _ _ hi (by rw [readL_len, hm.len]; omega) (by rw [readL_len, hm.len]; omega)).mono ?_
  rintro e w2 ⟨x, rfl, hk, hx⟩
  go_wp2
  go_ret2
  exact ⟨x, rfl, hk, by (repeat' (first | exact Ext.refl _ | assumption | apply Ext.allocR | apply Ext.drewR | apply Ext.drewNR | (refine Ext.trans' ?_ (by assumption))))⟩
set_option maxRecDepth 20000 in
set_option maxHeartbeats 1000000 in
theorem of_med (b c R W : Nat) (l cs : List Int) (v : Value) (w : World) (h : GAt w b c R W l) (hv : IntsAt w v cs) (hm : Meets R W cs) :
    Calls Try.prog 92 #[.agg #[.func (.func 91) #[] #[]], .pointer (some ⟨b, 0, none⟩), v] w (TellPost w W l cs ((R - 1) / 2)) := by
  have r1 := h.r1
  have r2 := h.r2
  go_enter Try.func92, Try.ntmps92
  go_wp2_with fail
  refine (Read_c b c R W l cs _ _ (h.ext (Ext.alloc' _ _)) (hv.ext (Ext.alloc' _ _)) hm).mono ?_
  rintro e w1 ⟨v1, rfl, ho, hx1⟩
  obtain ⟨hc1, hc2⟩ := bcell hx1
  have hi := IntsAt.of_row ho
  go_wp2_with fail
  refine (Median_c v1 _ _ hi (by rw [readL_len, hm.len]; omega) (by rw [readL_len, hm.len]; omega)).mono ?_
  rintro e w2 ⟨x, rfl, hk, hx⟩
  rw [readL_len, hm.len] at hk
  go_wp2
  go_ret2
  exact ⟨x, rfl, hk, by (repeat' (first | exact Ext.refl _ | assumption | apply Ext.allocR | apply Ext.drewR | apply Ext.drewNR | (refine Ext.trans' ?_ (by assumption))))⟩
set_option maxHeartbeats 1000000 in
theorem Middle_c (b c R W : Nat) (l cs : List Int) (v : Value) (w : World) (h : GAt w b c R W l) (hv : IntsAt w v cs) (hm : Meets R W cs) :
    Calls Try.prog 61 #[.pointer (some ⟨b, 0, none⟩), v] w (TellPost w W l cs ((R - 1) / 2)) := by
  go_enter Try.func61, Try.ntmps61
  go_wp2_with fail
  refine (of_med b c R W l cs _ _ h hv hm).mono ?_
  rintro e w2 ⟨x, rfl, hk, hx⟩
  go_wp2
  go_ret2
  exact ⟨x, rfl, hk, hx⟩
set_option maxHeartbeats 1000000 in
theorem Least_c (b c R W : Nat) (l cs : List Int) (v : Value) (w : World) (h : GAt w b c R W l) (hv : IntsAt w v cs) (hm : Meets R W cs) :
    Calls Try.prog 62 #[.pointer (some ⟨b, 0, none⟩), v] w (TellPost w W l cs 0) := by
  go_enter Try.func62, Try.ntmps62
  go_wp2_with fail
  refine (of_min b c R W l cs _ _ h hv hm).mono ?_
  rintro e w2 ⟨x, rfl, hk, hx⟩
  go_wp2
  go_ret2
  exact ⟨x, rfl, hk, hx⟩
end Go.Proofs.Ythancaehlijaoaa
