/- Part. No condition. -/
import Derived.Test.YtpnbgoahjoabkaaL6
import Derived.Test.YtpnbgoahjoabkaaL3
import Derived.Test.YtpnbgoahjoabkaaL5
import Derived.Defers

/- gaugerlaw15.shown: what the law shows of one small stack. -/
namespace Go.Proofs.Ytpnbgoahjoabkaa
set_option linter.unusedVariables false
open Go.RowKit

def K0 : Cfg := ⟨2, 2, 2, 1, 0⟩
theorem K0_ok : K0.Ok := by constructor <;> simp [K0, U64]
theorem K0_x1 : isX K0 1 = true := by decide
theorem K0_x2 : isX K0 2 = true := by decide
theorem K0_x0 : isX K0 0 = false := by decide
def K0a : Nat → List Int := updK K0 (fun n => zs (lvN K0 n)) 3 5
def K0b : Nat → List Int := updK K0 K0a 0 (-2)
theorem K0_e1 : errK K0 2 (fun n => zs (lvN K0 n)) 3 5 = 0 := errK_ok K0_ok rfl (B' := 0) (T := 5) (fun n _ => zs_bnd _) (by decide) (by decide) (by decide) (by decide) (by decide) (by decide) (by decide)
theorem K0_e2 : errK K0 2 K0a 0 (-2) = 0 := errK_ok K0_ok rfl (B' := 5) (T := 5) (fun n hn => updK_bnd (B' := 0) (T := 5) (zs_bnd _) (by decide) (by decide) (by decide)) (by decide) (by decide) (by decide) (by decide) (by decide) (by decide) (by decide)
theorem K0_e3 : errK K0 2 K0b 4 1 = 2 := by unfold errK; rfl
theorem K0_l1 : K0b 1 = [-2, 5] := by
  unfold K0b K0a updK
  rw [show ((1 : Nat) : Int) = 1 from rfl, lvU_x K0_x1, lvU_x K0_x1]
  rfl
theorem K0_l2 : K0b 2 = [3] := by
  unfold K0b K0a updK
  rw [show ((2 : Nat) : Int) = 2 from rfl, lvU_x K0_x2, lvU_x K0_x2]
  rfl
theorem K0_l0 : (K0b 0).length = 4 := by
  unfold K0b K0a updK
  rw [lvU_len, lvU_len]
  rfl
def KFresh (N B : Nat) (L : Nat → Lev) : Prop := ∀ n, n ≤ B → N ≤ (L n).s ∧ N ≤ (L n).b ∧ N ≤ (L n).c
theorem KFresh.ext {w a b : World} {B : Nat} {L : Nat → Lev} (h : KFresh w.heap.size B L) (hE : Ext w a) (hM : Mod (cellsOf B L) a b) : Ext w b :=
  Below.trans hE (hM.below (B := w.heap.size) hE.size (fun k hk => by obtain ⟨n, hn, rfl⟩ := hk; exact (h n hn).2.2))
theorem ints2 (w : World) (a b : Int) (t : TypeId) : IntsAt (w.alloc (.cells #[.int .i64 a, .int .i64 b] t)) (.slice (some ⟨w.heap.size, 0, none⟩) 2 2) [a, b] := by
  have h0 := (cell_of (heap_at w (.cells #[.int .i64 a, .int .i64 b] t) rfl) 0).trans rfl
  have h1 := (cell_of (heap_at w (.cells #[.int .i64 a, .int .i64 b] t) rfl) 1).trans rfl
  refine .inr ⟨w.heap.size, 0, 2, rfl, by rw [size_alloc]; omega, fun k hk => ?_⟩
  match k, hk with
  | 0, _ => exact h0
  | 1, _ => exact h1
set_option maxRecDepth 20000 in
set_option maxHeartbeats 4000000 in
theorem shownK_c (w : World) : Calls Try.prog 46 #[] w fun e w' => e = .returned (.bool true) ∧ Ext w w' := by
  go_enter Try.func46, Try.ntmps46
  go_wp2_with fail
  refine (KNew_c K0 K0_ok _).mono ?_
  rintro e w1 ⟨s, g, L, rfl, hK, hs, hg, hL, hx1⟩
  have hE1 : Ext w w1 := by (repeat' (first | exact Ext.refl _ | assumption | apply Ext.allocR | apply Ext.drewR | apply Ext.drewNR | (refine Ext.trans' ?_ (by assumption))))
  have hF : KFresh w.heap.size 2 L := hL
  replace hK : KAt w1 s g K0 2 L (fun n => zs (lvN K0 n)) := hK
  clear hx1 hL hg hs
  go_wp2_with fail
  refine (KNew_no ⟨0, 0, 0, 0, 0⟩ rfl _).mono ?_
  rintro e w2 ⟨rfl, hx2⟩
  have hE2 : Ext w w2 := by (repeat' (first | exact Ext.refl _ | assumption | apply Ext.allocR | apply Ext.drewR | apply Ext.drewNR | (refine Ext.trans' ?_ (by assumption))))
  have hK2 := hK.ext (w' := w2) (by (repeat' (first | exact Ext.refl _ | assumption | apply Ext.allocR | apply Ext.drewR | apply Ext.drewNR | (refine Ext.trans' ?_ (by assumption)))))
  clear hK hx2 hE1
  go_wp2_with fail
  refine Calls.mono (KUpdate_c s g K0 2 L _ 3 5 _ (hK2.ext ?hx) (by unfold I64; omega) (by unfold U64; omega)) ?_
  case hx => (repeat' (first | exact Ext.refl _ | assumption | apply Ext.allocR | apply Ext.drewR | apply Ext.drewNR | (refine Ext.trans' ?_ (by assumption))))
  rintro e w3 ⟨rfl, hK3, hM3⟩
  have hE3 : Ext w w3 := hF.ext (by (repeat' (first | exact Ext.refl _ | assumption | apply Ext.allocR | apply Ext.drewR | apply Ext.drewNR | (refine Ext.trans' ?_ (by assumption))))) hM3
  rw [K0_e1] at hK3 ⊢
  replace hK3 : KAt w3 s g K0 2 L K0a := hK3
  clear hM3 hE2 hK2
  go_wp2_with fail
  refine Calls.mono (KUpdate_c s g K0 2 L _ 0 (-2) _ (hK3.ext ?hx) (by unfold I64; omega) (by unfold U64; omega)) ?_
  case hx => (repeat' (first | exact Ext.refl _ | assumption | apply Ext.allocR | apply Ext.drewR | apply Ext.drewNR | (refine Ext.trans' ?_ (by assumption))))
  rintro e w4 ⟨rfl, hK4, hM4⟩
  have hE4 : Ext w w4 := hF.ext (by (repeat' (first | exact Ext.refl _ | assumption | apply Ext.allocR | apply Ext.drewR | apply Ext.drewNR | (refine Ext.trans' ?_ (by assumption))))) hM4
  rw [K0_e2] at hK4 ⊢
  replace hK4 : KAt w4 s g K0 2 L K0b := hK4
  clear hM4 hE3 hK3
  go_wp2_with fail
  refine Calls.mono (KUpdate_c s g K0 2 L _ 4 1 _ (hK4.ext ?hx) (by unfold I64; omega) (by unfold U64; omega)) ?_
  case hx => (repeat' (first | exact Ext.refl _ | assumption | apply Ext.allocR | apply Ext.drewR | apply Ext.drewNR | (refine Ext.trans' ?_ (by assumption))))
  rintro e w5 ⟨rfl, hK5, hM5⟩
  have hE5 : Ext w w5 := hF.ext (by (repeat' (first | exact Ext.refl _ | assumption | apply Ext.allocR | apply Ext.drewR | apply Ext.drewNR | (refine Ext.trans' ?_ (by assumption))))) hM5
  rw [K0_e3] at hK5 ⊢
  replace hK5 : KAt w5 s g K0 2 L K0b := hK5
  clear hM5 hE4 hK4
  go_wp2_with fail
  refine Calls.mono (KPoint_c s g K0 2 L _ _ (hK5.ext ?hx) 1 (by decide) 1 (by decide) (by decide)) ?_
  case hx => (repeat' (first | exact Ext.refl _ | assumption | apply Ext.allocR | apply Ext.drewR | apply Ext.drewNR | (refine Ext.trans' ?_ (by assumption))))
  rintro e w6 ⟨x, rfl, hp, hx6⟩
  obtain rfl : x = 5 := by
    rcases hp with ⟨_, h⟩ | ⟨h, _⟩
    · rw [K0_l1] at h; exact h
    · exact absurd h (by rw [show ((1 : Nat) : Int) = 1 from rfl, K0_x1]; decide)
  have hE6 : Ext w w6 := by (repeat' (first | exact Ext.refl _ | assumption | apply Ext.allocR | apply Ext.drewR | apply Ext.drewNR | (refine Ext.trans' ?_ (by assumption))))
  have hK6 := hK5.ext (w' := w6) (by (repeat' (first | exact Ext.refl _ | assumption | apply Ext.allocR | apply Ext.drewR | apply Ext.drewNR | (refine Ext.trans' ?_ (by assumption)))))
  clear hK5 hx6 hE5 hp
  go_wp2_with fail
  refine Calls.mono (KPoint_lv s g K0 2 L _ _ (hK6.ext ?hx) 3 (.inr (by decide)) 0) ?_
  case hx => (repeat' (first | exact Ext.refl _ | assumption | apply Ext.allocR | apply Ext.drewR | apply Ext.drewNR | (refine Ext.trans' ?_ (by assumption))))
  rintro e w7 ⟨rfl, hx7⟩
  have hE7 : Ext w w7 := by (repeat' (first | exact Ext.refl _ | assumption | apply Ext.allocR | apply Ext.drewR | apply Ext.drewNR | (refine Ext.trans' ?_ (by assumption))))
  have hK7 := hK6.ext (w' := w7) (by (repeat' (first | exact Ext.refl _ | assumption | apply Ext.allocR | apply Ext.drewR | apply Ext.drewNR | (refine Ext.trans' ?_ (by assumption)))))
  clear hK6 hx7 hE6
  go_wp2_with fail
  refine Calls.mono (KAt_c s g K0 2 L _ _ (hK7.ext ?hx) 1 (by decide)) ?_
  case hx => (repeat' (first | exact Ext.refl _ | assumption | apply Ext.allocR | apply Ext.drewR | apply Ext.drewNR | (refine Ext.trans' ?_ (by assumption))))
  rintro e w8 ⟨M, rfl, _, _, _, _, hx8⟩
  have hE8 : Ext w w8 := by (repeat' (first | exact Ext.refl _ | assumption | apply Ext.allocR | apply Ext.drewR | apply Ext.drewNR | (refine Ext.trans' ?_ (by assumption))))
  have hK8 := hK7.ext (w' := w8) (by (repeat' (first | exact Ext.refl _ | assumption | apply Ext.allocR | apply Ext.drewR | apply Ext.drewNR | (refine Ext.trans' ?_ (by assumption)))))
  clear hK7 hx8 hE7
  rw [show lvV K0 (1 : Nat) M = .iface 174 (.pointer (some ⟨M.s, 0, none⟩)) from lvV_x K0_x1 M]
  go_wp2_with fail
  refine Calls.mono (KTotal_c s g K0 2 L _ _ (hK8.ext ?hx)) ?_
  case hx => (repeat' (first | exact Ext.refl _ | assumption | apply Ext.allocR | apply Ext.drewR | apply Ext.drewNR | (refine Ext.trans' ?_ (by assumption))))
  rintro e w9 ⟨rfl, hx9⟩
  have hE9 : Ext w w9 := by (repeat' (first | exact Ext.refl _ | assumption | apply Ext.allocR | apply Ext.drewR | apply Ext.drewNR | (refine Ext.trans' ?_ (by assumption))))
  have hK9 := hK8.ext (w' := w9) (by (repeat' (first | exact Ext.refl _ | assumption | apply Ext.allocR | apply Ext.drewR | apply Ext.drewNR | (refine Ext.trans' ?_ (by assumption)))))
  clear hK8 hx9 hE8
  rw [K0_l2]
  go_wp2_with fail
  refine Calls.mono (KCells_c s g K0 2 L _ _ (hK9.ext ?hx) 0 (by decide)) ?_
  case hx => (repeat' (first | exact Ext.refl _ | assumption | apply Ext.allocR | apply Ext.drewR | apply Ext.drewNR | (refine Ext.trans' ?_ (by assumption))))
  rintro e w10 ⟨v, rfl, ho, hne, hx10⟩
  have hE10 : Ext w w10 := by (repeat' (first | exact Ext.refl _ | assumption | apply Ext.allocR | apply Ext.drewR | apply Ext.drewNR | (refine Ext.trans' ?_ (by assumption))))
  have hK10 := hK9.ext (w' := w10) (by (repeat' (first | exact Ext.refl _ | assumption | apply Ext.allocR | apply Ext.drewR | apply Ext.drewNR | (refine Ext.trans' ?_ (by assumption)))))
  obtain ⟨p0, q0, rfl⟩ := own_len ho
  rw [K0_l0]
  clear hK9 hx10 hE9 ho hne
  go_wp2_with fail
  refine Calls.mono (KCells_c s g K0 2 L _ _ (hK10.ext ?hx) 1 (by decide)) ?_
  case hx => (repeat' (first | exact Ext.refl _ | assumption | apply Ext.allocR | apply Ext.drewR | apply Ext.drewNR | (refine Ext.trans' ?_ (by assumption))))
  rintro e w11 ⟨v, rfl, ho, hne, hx11⟩
  have hE11 : Ext w w11 := by (repeat' (first | exact Ext.refl _ | assumption | apply Ext.allocR | apply Ext.drewR | apply Ext.drewNR | (refine Ext.trans' ?_ (by assumption))))
  have hv := IntsAt.of_row ho
  rw [K0_l1] at hv
  clear hK10 hx11 hE10 ho hne
  go_wp2_with fail
  refine Calls.mono (Same_c _ _ _ _ _ (hv.ext (Ext.alloc' _ _)) (ints2 w11 (-2) 5 _) (by decide) (by decide)) ?_
  rintro e w12 ⟨rfl, hx12⟩
  go_wp2
  go_ret
  exact ⟨rfl, by (repeat' (first | exact Ext.refl _ | assumption | apply Ext.allocR | apply Ext.drewR | apply Ext.drewNR | (refine Ext.trans' ?_ (by assumption))))⟩
end Go.Proofs.Ytpnbgoahjoabkaa

/- gaugerref15.Cut: an update of a key that there is. -/
namespace Go.Proofs.Ytpnbgoahjoabkaa
set_option linter.unusedVariables false
open Go.RowKit

set_option maxRecDepth 20000 in
set_option maxHeartbeats 2000000 in
theorem Cut15_c (c : Cfg) (hok : c.Ok) (key d : Int) (hk : U64 key) (hd : I64 d) (w : World) :
    Calls Try.prog 50 #[.agg #[.int .i64 c.bits, .int .i64 c.rows, .int .i64 c.width, .int .i64 c.mode, .int .u64 c.seed], .agg #[.int .u64 key, .int .i64 d]] w fun e w' => e = .returned (.agg #[.int .u64 (cutK c 0 key), .int .i64 (cutD c.mode d)]) ∧ Ext w w' := by
  obtain ⟨t1, t2⟩ := tmod_bd d
  obtain ⟨k1, k2⟩ := hk
  obtain ⟨kb1, kb2⟩ := keys_bd c hok 0 (Int.le_refl 0)
  obtain ⟨d1, d2⟩ := hd
  have kz : (keys c 0 == 0) = false := by simp; omega
  have kz2 : (keys c 0 = 0) = False := by simp; omega
  have hcd : cutD c.mode d = bif decide (c.mode = 2) then max (d.tmod 1099511627776) (-(d.tmod 1099511627776)) else d.tmod 1099511627776 := rfl
  have HCD := Lib.hid hcd
  have hck : cutK c 0 key = key % keys c 0 := rfl
  have HCK := Lib.hid hck
  clear hcd hck
  by_cases hm : c.mode = 2
  · have hmb : (c.mode == 2) = true := by simp [hm]
    have HM := Lib.hid hm
    clear hm
    by_cases hs0 : d.tmod 1099511627776 < 0
    · have hv : cutD c.mode d = -(d.tmod 1099511627776) := by rw [HCD.out, decide_eq_true HM.out]; show max _ _ = _; omega
      have HV := Lib.hid hv
      clear hv
      go_enter Try.func50, Try.ntmps50
      go_wp2
      refine wp_region_after_tail 7 (by kernel_rfl) (by kernel_rfl) ?_
      simp only [List.take_succ_cons, List.take_zero, List.drop_succ_cons, List.drop_zero]
      repeat (go_big_quiet_step ((go_at_call 49; exact quiet_after (KeysR_c c hok 0 (Int.le_refl 0) (by have := hok.b1; omega) _))))
      refine wpQuiet_nil ?_
      rintro _ ⟨xx, rfl⟩
      obtain ⟨w1, hb1⟩ := xx
      try dsimp only
      have hs := hb1.size
      simp only [size_alloc] at hs
      have hcell : w1.heap[w.heap.size + 1 + 1]? = some (.cells #[.int .u64 0, .int .i64 0] 38 (0, 0)) := by
        rw [hb1.block _ (by simp only [size_alloc]; omega)]
        exact heap_at _ _ (by simp only [size_alloc])
      have p0 := (cell_of hcell 0).trans rfl
      have p1 := (cell_of hcell 1).trans rfl
      have f0 := frozen_of hcell 0
      have f1 := frozen_of hcell 1
      have hE : Ext w w1 := by (repeat' (first | exact Ext.refl _ | assumption | apply Ext.allocR | apply Ext.drewR | apply Ext.drewNR | (refine Ext.trans' ?_ (by assumption))))
      clear hb1
      go_wp2
      have r0 := set2_0 hcell (.int .u64 (key % keys c 0))
      have r1 := set2_1 hcell (.int .u64 (key % keys c 0)) (.int .i64 (-(d.tmod 1099511627776)))
      refine bodyPost_ret (v := .agg #[.int .u64 (key % keys c 0), .int .i64 (-(d.tmod 1099511627776))]) (by simp [results, Try.results50, go_sem, r0, r1]) rfl ⟨by rw [HV.out, HCK.out], ?_⟩
      exact (hE.setR (by show w.heap.size ≤ w.heap.size + 1 + 1; omega) _).setR (by show w.heap.size ≤ w.heap.size + 1 + 1; omega) _
    · have hv : cutD c.mode d = d.tmod 1099511627776 := by rw [HCD.out, decide_eq_true HM.out]; show max _ _ = _; omega
      have HV := Lib.hid hv
      clear hv
      go_enter Try.func50, Try.ntmps50
      go_wp2
      refine wp_region_after_tail 7 (by kernel_rfl) (by kernel_rfl) ?_
      simp only [List.take_succ_cons, List.take_zero, List.drop_succ_cons, List.drop_zero]
      repeat (go_big_quiet_step ((go_at_call 49; exact quiet_after (KeysR_c c hok 0 (Int.le_refl 0) (by have := hok.b1; omega) _))))
      refine wpQuiet_nil ?_
      rintro _ ⟨xx, rfl⟩
      obtain ⟨w1, hb1⟩ := xx
      try dsimp only
      have hs := hb1.size
      simp only [size_alloc] at hs
      have hcell : w1.heap[w.heap.size + 1 + 1]? = some (.cells #[.int .u64 0, .int .i64 0] 38 (0, 0)) := by
        rw [hb1.block _ (by simp only [size_alloc]; omega)]
        exact heap_at _ _ (by simp only [size_alloc])
      have p0 := (cell_of hcell 0).trans rfl
      have p1 := (cell_of hcell 1).trans rfl
      have f0 := frozen_of hcell 0
      have f1 := frozen_of hcell 1
      have hE : Ext w w1 := by (repeat' (first | exact Ext.refl _ | assumption | apply Ext.allocR | apply Ext.drewR | apply Ext.drewNR | (refine Ext.trans' ?_ (by assumption))))
      clear hb1
      go_wp2
      have r0 := set2_0 hcell (.int .u64 (key % keys c 0))
      have r1 := set2_1 hcell (.int .u64 (key % keys c 0)) (.int .i64 (d.tmod 1099511627776))
      refine bodyPost_ret (v := .agg #[.int .u64 (key % keys c 0), .int .i64 (d.tmod 1099511627776)]) (by simp [results, Try.results50, go_sem, r0, r1]) rfl ⟨by rw [HV.out, HCK.out], ?_⟩
      exact (hE.setR (by show w.heap.size ≤ w.heap.size + 1 + 1; omega) _).setR (by show w.heap.size ≤ w.heap.size + 1 + 1; omega) _
  · have hmb : (c.mode == 2) = false := by simp [hm]
    have hv : cutD c.mode d = d.tmod 1099511627776 := by rw [HCD.out, decide_eq_false hm]; rfl
    have HV := Lib.hid hv
    clear hv hm
    go_enter Try.func50, Try.ntmps50
    go_wp2
    refine wp_region_after_tail 7 (by kernel_rfl) (by kernel_rfl) ?_
    simp only [List.take_succ_cons, List.take_zero, List.drop_succ_cons, List.drop_zero]
    repeat (go_big_quiet_step ((go_at_call 49; exact quiet_after (KeysR_c c hok 0 (Int.le_refl 0) (by have := hok.b1; omega) _))))
    refine wpQuiet_nil ?_
    rintro _ ⟨xx, rfl⟩
    obtain ⟨w1, hb1⟩ := xx
    try dsimp only
    have hs := hb1.size
    simp only [size_alloc] at hs
    have hcell : w1.heap[w.heap.size + 1 + 1]? = some (.cells #[.int .u64 0, .int .i64 0] 38 (0, 0)) := by
      rw [hb1.block _ (by simp only [size_alloc]; omega)]
      exact heap_at _ _ (by simp only [size_alloc])
    have p0 := (cell_of hcell 0).trans rfl
    have p1 := (cell_of hcell 1).trans rfl
    have f0 := frozen_of hcell 0
    have f1 := frozen_of hcell 1
    have hE : Ext w w1 := by (repeat' (first | exact Ext.refl _ | assumption | apply Ext.allocR | apply Ext.drewR | apply Ext.drewNR | (refine Ext.trans' ?_ (by assumption))))
    clear hb1
    go_wp2
    have r0 := set2_0 hcell (.int .u64 (key % keys c 0))
    have r1 := set2_1 hcell (.int .u64 (key % keys c 0)) (.int .i64 (d.tmod 1099511627776))
    refine bodyPost_ret (v := .agg #[.int .u64 (key % keys c 0), .int .i64 (d.tmod 1099511627776)]) (by simp [results, Try.results50, go_sem, r0, r1]) rfl ⟨by rw [HV.out, HCK.out], ?_⟩
    exact (hE.setR (by show w.heap.size ≤ w.heap.size + 1 + 1; omega) _).setR (by show w.heap.size ≤ w.heap.size + 1 + 1; omega) _
end Go.Proofs.Ytpnbgoahjoabkaa

/- gaugerref15.Has, walked: what the keys of a piece have of updates. -/
namespace Go.Proofs.Ytpnbgoahjoabkaa
set_option linter.unusedVariables false
open Go.RowKit

/-- What the keys of a piece have of sixty updates. -/
def hasK (C : Cfg) (us : List (Int × Int)) (k n : Nat) (j : Int) : Int := hasP j (stP C n (fus us 0 k))
theorem stP_len (C : Cfg) (n : Nat) (us : List (Int × Int)) : (stP C n us).length = us.length := by simp [stP]
theorem stP_bnd (C : Cfg) (n : Nat) (us : List (Int × Int)) : ∀ u ∈ stP C n us, -1099511627776 ≤ u.2 ∧ u.2 ≤ 1099511627776 := by
  intro u hu
  simp only [stP, List.mem_map] at hu
  obtain ⟨p, _, rfl⟩ := hu
  have := cutD_bd C.mode p.2
  show _ ≤ cutD C.mode p.2 ∧ _
  omega
theorem hasK_bd (C : Cfg) (us : List (Int × Int)) {k : Nat} (hk : k ≤ 60) (n : Nat) (j : Int) : -65970697666560 ≤ hasK C us k n j ∧ hasK C us k n j ≤ 65970697666560 := by
  have := sumIf_bnd (fun x => x == j) 1099511627776 (by decide) (stP C n (fus us 0 k)) (stP_bnd C n _)
  have hl := fus_len us 0 k
  rw [stP_len] at this
  unfold hasK hasP
  omega
theorem hasK_zero (C : Cfg) (us : List (Int × Int)) (n : Nat) (j : Int) : hasK C us 0 n j = 0 := by unfold hasK; rw [fus_self]; rfl
theorem hasK_succ (C : Cfg) (us : List (Int × Int)) {k : Nat} (hk : k < us.length) (n : Nat) (j : Int) :
    hasK C us (k + 1) n j = hasK C us k n j + (bif sh n (cutK C 0 us[k].1) == j then cutD C.mode us[k].2 else 0) := by
  have hget : us.getD k (0, 0) = us[k] := by simp [hk]
  unfold hasK
  rw [fus_snoc us (Nat.zero_le k) hk, stP_snoc, hget]
  exact sumIf_snoc _ _ _
set_option maxRecDepth 20000 in
set_option maxHeartbeats 4000000 in
theorem Has15_c (us : List (Int × Int)) (hus : UpsOk us) (v : Value) (C : Cfg) (hok : C.Ok) (n : Nat) (hn : n ≤ 63) (j : Int) (hj : U64 j) (w : World) (hv : UpsAt w v us) (hul : us.length ≤ 140737488355328) :
    Calls Try.prog 55 #[.agg #[.int .i64 C.bits, .int .i64 C.rows, .int .i64 C.width, .int .i64 C.mode, .int .u64 C.seed], v, .agg #[.int .i64 n, .int .u64 j]] w
      fun e w' => e = .returned (.int .i64 (hasK C us 60 n j)) ∧ Ext w w' := by
  obtain ⟨vp, vc, rfl⟩ := hv.sl
  have HV := Lib.hid hv
  clear hv
  go_enter Try.func55, Try.ntmps55
  go_wp2_with fail
  go_loopw [7, 8] (fun u7 u8 wr => ∃ k : Nat, k ≤ 60 ∧ k ≤ us.length ∧ u7 = .int .i64 (hasK C us k n j) ∧ u8 = .int .i64 k ∧ Ext w wr ∧ CfgAt wr w.heap.size C ∧ wr.heap[w.heap.size + 1]? = some (.cells #[.int .i64 n, .int .u64 j] 77 (0, 0))) (fun _ u8 _ => 60 - (intOf u8).toNat)
  case atStart =>
    refine ⟨0, Nat.zero_le _, Nat.zero_le _, by rw [hasK_zero], rfl, by (repeat' (first | exact Ext.refl _ | assumption | apply Ext.allocR | apply Ext.drewR | apply Ext.drewNR | (refine Ext.trans' ?_ (by assumption)))), (CfgAt.box C _ rfl).ext (Ext.alloc' _ _), heap_at _ _ (by rw [size_alloc])⟩
  case round =>
    obtain ⟨k, hk60, hkl, rfl, rfl, hE, hC, hP⟩ := hrel
    have l1 := hC.lt
    have l2 := lt_of hP
    obtain ⟨hsb1, hsb2⟩ := hasK_bd C us hk60 n j
    by_cases hgo : k < us.length ∧ k < 60
    · obtain ⟨hg1, hg2⟩ := hgo
      obtain ⟨ug, off, rfl, hul0, d0, d1⟩ := (UpsAt.ext HV.out hE).one hg1
      have hu := hus _ (List.getElem_mem hg1)
      have hsn := hasK_succ C us hg1 n j
      have c0 := hC.c0
      have c1 := hC.c1
      have c2 := hC.c2
      have c3 := hC.c3
      have c4 := hC.c4
      generalize us[k] = uu at *
      obtain ⟨uk, ud⟩ := uu
      generalize hasK C us k n j = s at *
      have HSN := Lib.hid hsn
      have HP := Lib.hid hP
      have HC := Lib.hid hC
      clear hsn hP hC
      go_upto_region 5 with (fail)
      go_cut [9] (fun s9 wx => ∃ bu : Nat, s9 = .pointer (some ⟨bu, 0, none⟩) ∧ wx.heap[bu]? = some (.cells #[.int .u64 (cutK C 0 uk), .int .i64 (cutD C.mode ud)] 38 (0, 0)) ∧ Ext wr wx ∧ wr.heap.size ≤ bu)
      case first =>
        have hC0 := af_drew wr
        refine pi_start (fun w' => ∃ x : After wr, w' = x.w) [] (by kernel_rfl) ?_
        refine pi_c 0 (by assumption) rfl (by kernel_rfl) (by kernel_rfl) (fun _ _ _ _ h => h) (fun K hK => ?_)
        go_big_quiet_op
        refine hK _ ?_
        clear hK K
        refine pi_t 1 rfl (by kernel_rfl) (by kernel_rfl) (fun _ _ _ _ h => h) (fun K hK => ?_)
        go_big_quiet_op
        refine hK _ ?_
        clear hK K
        refine pi_t 2 rfl (by kernel_rfl) (by kernel_rfl) (fun _ _ _ _ h => h) (fun K hK => ?_)
        go_big_quiet_op
        refine hK _ ?_
        clear hK K
        refine pi_t 3 rfl (by kernel_rfl) (by kernel_rfl) (fun _ _ _ _ h => h) (fun K hK => ?_)
        go_big_quiet_op
        refine hK _ ?_
        clear hK K
        refine pi_c 4 (by assumption) rfl (by kernel_rfl) (by kernel_rfl) (fun _ _ _ _ h => h) (fun K hK => ?_)
        go_big_quiet_op
        refine hK _ ?_
        clear hK K
        refine pi_b 5 6 rfl rfl (by kernel_rfl) (fun K hK => ?_) (fun K hK => ?_)
        · go_wp2_with (go_at_call 50; refine (Cut15_c C hok uk ud hu.1 hu.2 _).mono ?_; rintro e w3 ⟨rfl, hx3⟩)
          have hx3' : Ext wr w3 := Ext.trans' (Below.drew (Ext.refl wr)) hx3
          have hs3 := hx3'.size
          refine hK _ _ (fun _ h => af_step h hx3) ?_
          clear hK K
          refine pi_l 6 rfl (by kernel_rfl) (fun K hK => ?_)
          go_wp2
          refine hK _ _ (fun _ h => af_step h (Ext.alloc' _ _)) ?_
          clear hK K
          refine pi_l 7 rfl (by kernel_rfl) (fun K hK => ?_)
          go_wp2
          refine hK _ _ (fun _ _ => ⟨⟨_, hx3'.allocR _⟩, rfl⟩) ?_
          clear hK K
          refine pi_end (by kernel_rfl) ?_
          go_wp2_with fail
          go_meet
          exact ⟨w3.heap.size, rfl, heap_at _ _ rfl, hx3'.allocR _, hs3⟩
        · go_wp2
          refine hK _ _ (fun _ h => af_step h (Ext.alloc' _ _)) ?_
          clear hK K
          refine pi_l 5 rfl (by kernel_rfl) (fun K hK => ?_)
          go_wp2_with (go_at_call 50; refine (Cut15_c C hok uk ud hu.1 hu.2 _).mono ?_; rintro e w3 ⟨rfl, hx3⟩)
          refine hK _ _ (fun _ h => af_step h hx3) ?_
          clear hK K
          have hs3 : (wr.alloc (.cells #[.int .u64 0, .int .i64 0] 38)).heap.size ≤ w3.heap.size := hx3.size
          rw [size_alloc] at hs3
          have hx3' : Ext wr w3 := Ext.trans' (Ext.alloc' wr _) (Ext.trans' (Below.drew (Ext.refl _)) hx3)
          have hbx : w3.heap[wr.heap.size]? = some (.cells #[.int .u64 0, .int .i64 0] 38 (0, 0)) := by
            rw [hx3.block _ (by show _ < (wr.alloc _).heap.size; rw [size_alloc]; exact Nat.lt_succ_self _)]
            exact heap_at wr _ rfl
          have p0 := (cell_of hbx 0).trans rfl
          have p1 := (cell_of hbx 1).trans rfl
          have f0 := frozen_of hbx 0
          have f1 := frozen_of hbx 1
          refine pi_l 7 rfl (by kernel_rfl) (fun K hK => ?_)
          go_wp2
          refine hK _ _ (fun _ _ => ⟨⟨_, (hx3'.setR (Nat.le_refl _) _).setR (Nat.le_refl _) _⟩, rfl⟩) ?_
          clear hK K
          refine pi_end (by kernel_rfl) ?_
          go_wp2_with fail
          go_meet
          exact ⟨wr.heap.size, rfl, set2 hbx _ _, (hx3'.setR (Nat.le_refl _) _).setR (Nat.le_refl _) _, Nat.le_refl _⟩
      case rest =>
        obtain ⟨bu, rfl, hbu, hxw, hbul⟩ := hcut
        have hdb := cutD_bd C.mode ud
        have b1 := (cell_of hbu 1).trans rfl
        have b0 := (cell_of hbu 0).trans rfl
        have hE' : Ext w wc := hE.trans' hxw
        have hP' := hxw.keep HP.out
        have hC' := HC.out.ext hxw
        have p0 := (cell_of hP' 0).trans rfl
        have p1 := (cell_of hP' 1).trans rfl
        have pl := lt_of hP'
        clear d0 d1 c0 c1 c2 c3 c4 hE hxw
        have hkk0 := (cutK_bd C hok 0 uk (Int.le_refl 0)).1
        generalize cutK C 0 uk = kk at *
        generalize cutD C.mode ud = dd at *
        by_cases hkk : sh n kk = j
        · have g1 : (sh n kk == j) = true := by simpa using hkk
          have hs' := HSN.out
          rw [g1] at hs'
          have HS := Lib.hid hs'
          have g2 : (kk / 2 ^ n == j) = true := g1
          clear hs' HSN hkk g1
          go_wp2_with fail
          go_roundw
          case rel => exact ⟨k + 1, by omega, by omega, by rw [HS.out]; rfl, by go_num, hE', hC', hP'⟩
          case measure => simp [intOf]; omega
        · have g1 : (sh n kk == j) = false := by simpa using hkk
          have hs' := HSN.out
          rw [g1] at hs'
          have HS := Lib.hid hs'
          have g2 : (kk / 2 ^ n == j) = false := g1
          clear hs' HSN hkk g1
          go_wp2_with fail
          go_roundw
          case rel => exact ⟨k + 1, by omega, by omega, by rw [HS.out]; exact congrArg _ (Int.add_zero _).symm, by go_num, hE', hC', hP'⟩
          case measure => simp [intOf]; omega
    · have hfe := fus_end us (i := 0) (j := 60) (k := k) (by omega) (by omega) (.inr ⟨hk60, hkl⟩) hgo
      have hfe' : hasK C us k n j = hasK C us 60 n j := by unfold hasK; rw [hfe]
      rw [hfe']
      go_wp2_with fail
      all_goals
        go_ret
        exact ⟨rfl, hE⟩
end Go.Proofs.Ytpnbgoahjoabkaa

/- Small things for the statements about stacks: gaugerref07.Exact, what an exact level has. -/
namespace Go.Proofs.Ytpnbgoahjoabkaa
set_option linter.unusedVariables false
open Go.RowKit
set_option maxRecDepth 20000 in
set_option maxHeartbeats 2000000 in
theorem ExactR_c (C : Cfg) (h : C.Ok) (lv : Int) (h0 : 0 ≤ lv) (h1 : lv ≤ C.bits) (w : World) :
    Calls Try.prog 56 #[.agg #[.int .i64 C.bits, .int .i64 C.rows, .int .i64 C.width, .int .i64 C.mode, .int .u64 C.seed], .int .i64 lv] w fun e w' => e = .returned (.bool (isX C lv)) ∧ Ext w w' := by
  have hk := keys_bd C h lv h0
  have w1' := h.w1
  have w2' := h.w2
  have hI : isX C lv = decide (keys C lv ≤ C.width) := rfl
  go_enter Try.func56, Try.ntmps56
  go_wp2_with fail
  refine (KeysR_c C h lv h0 h1 _).mono ?_
  rintro e w1 ⟨rfl, hb⟩
  have hE : Ext w w1 := by (repeat' (first | exact Ext.refl _ | assumption | apply Ext.allocR | apply Ext.drewR | apply Ext.drewNR | (refine Ext.trans' ?_ (by assumption))))
  have hC := (CfgAt.box (w := w) C 24 rfl).ext hb
  have c2 := hC.c2
  have cl := hC.lt
  have HI := Lib.hid hI
  generalize keys C lv = N at *
  clear hb hI hC
  by_cases hx : N ≤ C.width
  · go_wp2
    go_ret
    exact ⟨by rw [HI.out, decide_eq_true hx]; rfl, hE⟩
  · go_wp2
    go_ret
    exact ⟨by rw [HI.out, decide_eq_false (by omega)]; rfl, hE⟩
theorem Has15_top (us : List (Int × Int)) (hus : UpsOk us) (v : Value) (C : Cfg) (hok : C.Ok) {B : Nat} (hB : C.bits = B) (w : World) (hv : UpsAt w v us) (hul : us.length ≤ 140737488355328) :
    Calls Try.prog 55 #[.agg #[.int .i64 C.bits, .int .i64 C.rows, .int .i64 C.width, .int .i64 C.mode, .int .u64 C.seed], v, .agg #[.int .i64 C.bits, .int .u64 0]] w
      fun e w' => e = .returned (.int .i64 (hasK C us 60 B 0)) ∧ Ext w w' := by
  have h := Has15_c us hus v C hok B (by have := hok.b2; omega) 0 ⟨by decide, by decide⟩ w hv hul
  rw [← hB] at h
  exact h
/-- What a stack that was fed has in all. -/
theorem feed_total {C : Cfg} (hok : C.Ok) {B : Nat} (hB : C.bits = B) {us : List (Int × Int)} (hus : UpsOk us) : (feedK C (fus us 0 60) B).getD 0 0 = hasK C us 60 B 0 :=
  feedK_x hok (by omega) (fun u hu => hus u (List.mem_of_mem_take (List.mem_of_mem_drop hu))) (isX_top hok hB) 0
theorem fus_ok {us : List (Int × Int)} (hus : UpsOk us) (i j : Nat) : UpsOk (fus us i j) := fun u hu => hus u (List.mem_of_mem_take (List.mem_of_mem_drop hu))
theorem pt_x {C : Cfg} (hok : C.Ok) {n : Nat} (hn : (n : Int) ≤ C.bits) {us : List (Int × Int)} (hus : UpsOk us) (hx : isX C n = true) {j z : Int} (hj : 0 ≤ j) (h : lvPt C n (feedK C (fus us 0 60) n) j z) : z = hasK C us 60 n j := by
  rcases h with ⟨_, h⟩ | ⟨h, _⟩
  · rw [h, feedK_x hok hn (fus_ok hus 0 60) hx]
    unfold hasK
    rw [show ((j.toNat : Nat) : Int) = j by omega]
  · rw [hx] at h; cases h
end Go.Proofs.Ytpnbgoahjoabkaa

/- Plain law: where no key has less than 0, no prefix is told less than it has. -/
namespace Go.Proofs.Ytpnbgoahjoabkaa
set_option linter.unusedVariables false
open Go.RowKit

/-- Has no key of the first k updates less than 0? -/
def plK (C : Cfg) (us : List (Int × Int)) (k : Nat) : Bool := (us.take k).all fun u => decide (0 ≤ hasK C us 60 0 (cutK C 0 u.1))
theorem plK_zero (C : Cfg) (us : List (Int × Int)) : plK C us 0 = true := rfl
theorem plK_succ (C : Cfg) (us : List (Int × Int)) {k : Nat} (hk : k < us.length) : plK C us (k + 1) = (plK C us k && decide (0 ≤ hasK C us 60 0 (cutK C 0 us[k].1))) := by
  unfold plK
  rw [List.take_succ_eq_append_getElem hk, List.all_append]
  simp
theorem plK_end (C : Cfg) (us : List (Int × Int)) {k : Nat} (h60 : k ≤ 60) (hk : k ≤ us.length) (he : ¬ (k < us.length ∧ k < 60)) : plK C us k = plK C us 60 := by
  unfold plK
  by_cases h : k = 60
  · rw [h]
  · have : k = us.length := by omega
    rw [this, List.take_length, List.take_of_length_le (by omega)]
theorem sh_zero (key : Int) : sh 0 key = key := by unfold sh; simp
/-- What a level is told is what level 0 is told, of the keys there. -/
theorem sumIf_stP (C : Cfg) (n : Nat) (p : Int → Bool) : ∀ us : List (Int × Int), sumIf p (stP C n us) = sumIf (fun k => p (sh n k)) (stP C 0 us)
  | [] => rfl
  | u :: us => by
    have ih := sumIf_stP C n p us
    show sumIf p ((sh n (cutK C 0 u.1), cutD C.mode u.2) :: stP C n us) = sumIf (fun k => p (sh n k)) ((sh 0 (cutK C 0 u.1), cutD C.mode u.2) :: stP C 0 us)
    rw [sumIf_cons, sumIf_cons, ih, sh_zero]
theorem pl_nn {C : Cfg} {us : List (Int × Int)} (h : plK C us 60 = true) (n : Nat) (p : Int → Bool) : 0 ≤ sumIf p (stP C n (fus us 0 60)) := by
  rw [sumIf_stP]
  refine sumIf_nn _ _ _ (Nat.le_refl _) fun u hu => ?_
  simp only [stP, List.mem_map] at hu
  obtain ⟨v, hv, rfl⟩ := hu
  unfold plK at h
  rw [List.all_eq_true] at h
  have := h v (by unfold fus at hv; simpa using hv)
  have h2 := of_decide_eq_true this
  rw [show ((sh 0 (cutK C 0 v.1), cutD C.mode v.2) : Int × Int).1 = cutK C 0 v.1 from sh_zero _]
  exact h2
theorem cols_lenR {C : Cfg} (hok : C.Ok) (lv key : Int) {R W : Nat} (hr : C.rows = R) (hw : C.width = W) : (cols C lv key).length = R := (cols_meets C hok lv key hr hw).len
/-- No prefix is told less than it has. -/
theorem over_law {C : Cfg} (hok : C.Ok) {n : Nat} (hn : (n : Int) ≤ C.bits) {us : List (Int × Int)} (hus : UpsOk us) (hm : C.mode ≠ 3) (hp : plK C us 60 = true) {j z : Int} (hj : 0 ≤ j)
    (h : lvPt C n (feedK C (fus us 0 60) n) j z) : hasK C us 60 n j ≤ z := by
  cases hx : isX C n with
  | true => exact Int.le_of_eq (pt_x hok hn hus hx hj h).symm
  | false =>
    rcases h with ⟨h, _⟩ | ⟨_, h⟩
    · rw [hx] at h; cases h
    rw [if_neg hm, feedK_s hok hn (fus_ok hus 0 60) hx] at h
    have hr := rN_eq hok
    have hw := wN_eq hok
    have hR : 0 < rN C := by have := hok.r1; omega
    have hs : cutP C n (shU n (fus us 0 60)) = stP C n (fus us 0 60) := stP_cutP hok hn (fus_ok hus 0 60)
    unfold hasK
    by_cases h2 : C.mode = 2
    · obtain ⟨h1, _⟩ := kth0_spec h
      unfold readL at h1
      rw [cols_lenR hok n j hr hw] at h1
      simp only [List.mem_map, List.mem_range] at h1
      obtain ⟨r, hrr, rfl⟩ := h1
      have := cons_low C hok n (rN C) (wN C) hr hw h2 (shU n (fus us 0 60)) j r hrr
      rw [hs] at this
      exact this
    · rw [read_cell C hok n (rN C) (wN C) hr hw h2, hs] at h
      have e := least_of h
      obtain ⟨r, _, hr2⟩ := leastF_mem (fun r => othP C n j r (stP C n (fus us 0 60))) (rN C) hR
      have hnn : 0 ≤ othP C n j r (stP C n (fus us 0 60)) := pl_nn hp n _
      rw [e, hr2]
      omega
end Go.Proofs.Ytpnbgoahjoabkaa

/- gaugerref16.Between, walked: what the keys of a span have of updates. -/
namespace Go.Proofs.Ytpnbgoahjoabkaa
set_option linter.unusedVariables false
open Go.RowKit
def inB (lo hi : Int) (u : Int) : Bool := decide (lo ≤ u) && decide (u ≤ hi)
/-- What the keys from lo to hi have of sixty updates. -/
def betK (C : Cfg) (us : List (Int × Int)) (k : Nat) (lo hi : Int) : Int := sumIf (inB lo hi) (stP C 0 (fus us 0 k))
theorem betK_bd (C : Cfg) (us : List (Int × Int)) {k : Nat} (hk : k ≤ 60) (lo hi : Int) : -65970697666560 ≤ betK C us k lo hi ∧ betK C us k lo hi ≤ 65970697666560 := by
  have := sumIf_bnd (inB lo hi) 1099511627776 (by decide) (stP C 0 (fus us 0 k)) (stP_bnd C 0 _)
  have hl := fus_len us 0 k
  rw [stP_len] at this
  unfold betK
  omega
theorem betK_zero (C : Cfg) (us : List (Int × Int)) (lo hi : Int) : betK C us 0 lo hi = 0 := by unfold betK; rw [fus_self]; rfl
theorem betK_succ (C : Cfg) (us : List (Int × Int)) {k : Nat} (hk : k < us.length) (lo hi : Int) :
    betK C us (k + 1) lo hi = betK C us k lo hi + (bif inB lo hi (cutK C 0 us[k].1) then cutD C.mode us[k].2 else 0) := by
  have hget : us.getD k (0, 0) = us[k] := by simp [hk]
  unfold betK
  rw [fus_snoc us (Nat.zero_le k) hk, stP_snoc, hget, sh_zero]
  exact sumIf_snoc _ _ _
set_option maxRecDepth 20000 in
set_option maxHeartbeats 4000000 in
theorem Between16_c (us : List (Int × Int)) (hus : UpsOk us) (v : Value) (C : Cfg) (hok : C.Ok) (lo hi : Int) (hlo : U64 lo) (hhi : U64 hi) (w : World) (hv : UpsAt w v us) (hul : us.length ≤ 140737488355328) :
    Calls Try.prog 75 #[.agg #[.int .i64 C.bits, .int .i64 C.rows, .int .i64 C.width, .int .i64 C.mode, .int .u64 C.seed], v, .int .u64 lo, .int .u64 hi] w
      fun e w' => e = .returned (.int .i64 (betK C us 60 lo hi)) ∧ Ext w w' := by
  obtain ⟨vp, vc, rfl⟩ := hv.sl
  have HV := Lib.hid hv
  clear hv
  go_enter Try.func75, Try.ntmps75
  go_wp2_with fail
  go_loopw [9, 10] (fun u7 u8 wr => ∃ k : Nat, k ≤ 60 ∧ k ≤ us.length ∧ u7 = .int .i64 (betK C us k lo hi) ∧ u8 = .int .i64 k ∧ Ext w wr ∧ CfgAt wr w.heap.size C) (fun _ u8 _ => 60 - (intOf u8).toNat)
  case atStart =>
    exact ⟨0, Nat.zero_le _, Nat.zero_le _, by rw [betK_zero], rfl, by (repeat' (first | exact Ext.refl _ | assumption | apply Ext.allocR | apply Ext.drewR | apply Ext.drewNR | (refine Ext.trans' ?_ (by assumption)))), CfgAt.box C _ rfl⟩
  case round =>
    obtain ⟨k, hk60, hkl, rfl, rfl, hE, hC⟩ := hrel
    have l1 := hC.lt
    obtain ⟨hsb1, hsb2⟩ := betK_bd C us hk60 lo hi
    by_cases hgo : k < us.length ∧ k < 60
    · obtain ⟨hg1, hg2⟩ := hgo
      obtain ⟨ug, off, rfl, hul0, d0, d1⟩ := (UpsAt.ext HV.out hE).one hg1
      have hu := hus _ (List.getElem_mem hg1)
      have hsn := betK_succ C us hg1 lo hi
      have c0 := hC.c0
      have c1 := hC.c1
      have c2 := hC.c2
      have c3 := hC.c3
      have c4 := hC.c4
      generalize us[k] = uu at *
      obtain ⟨uk, ud⟩ := uu
      generalize betK C us k lo hi = s at *
      have HSN := Lib.hid hsn
      have HC := Lib.hid hC
      clear hsn hC
      go_upto_region 5 with (fail)
      go_cut [11] (fun s11 wx => ∃ bu : Nat, s11 = .pointer (some ⟨bu, 0, none⟩) ∧ wx.heap[bu]? = some (.cells #[.int .u64 (cutK C 0 uk), .int .i64 (cutD C.mode ud)] 38 (0, 0)) ∧ Ext wr wx ∧ wr.heap.size ≤ bu)
      case first =>
        have hC0 := af_drew wr
        refine pi_start (fun w' => ∃ x : After wr, w' = x.w) [] (by kernel_rfl) ?_
        refine pi_c 0 (by assumption) rfl (by kernel_rfl) (by kernel_rfl) (fun _ _ _ _ h => h) (fun K hK => ?_)
        go_big_quiet_op
        refine hK _ ?_
        clear hK K
        refine pi_t 1 rfl (by kernel_rfl) (by kernel_rfl) (fun _ _ _ _ h => h) (fun K hK => ?_)
        go_big_quiet_op
        refine hK _ ?_
        clear hK K
        refine pi_t 2 rfl (by kernel_rfl) (by kernel_rfl) (fun _ _ _ _ h => h) (fun K hK => ?_)
        go_big_quiet_op
        refine hK _ ?_
        clear hK K
        refine pi_t 3 rfl (by kernel_rfl) (by kernel_rfl) (fun _ _ _ _ h => h) (fun K hK => ?_)
        go_big_quiet_op
        refine hK _ ?_
        clear hK K
        refine pi_c 4 (by assumption) rfl (by kernel_rfl) (by kernel_rfl) (fun _ _ _ _ h => h) (fun K hK => ?_)
        go_big_quiet_op
        refine hK _ ?_
        clear hK K
        refine pi_b 5 6 rfl rfl (by kernel_rfl) (fun K hK => ?_) (fun K hK => ?_)
        · go_wp2_with (go_at_call 50; refine (Cut15_c C hok uk ud hu.1 hu.2 _).mono ?_; rintro e w3 ⟨rfl, hx3⟩)
          have hx3' : Ext wr w3 := Ext.trans' (Below.drew (Ext.refl wr)) hx3
          have hs3 := hx3'.size
          refine hK _ _ (fun _ h => af_step h hx3) ?_
          clear hK K
          refine pi_l 6 rfl (by kernel_rfl) (fun K hK => ?_)
          go_wp2
          refine hK _ _ (fun _ h => af_step h (Ext.alloc' _ _)) ?_
          clear hK K
          refine pi_l 7 rfl (by kernel_rfl) (fun K hK => ?_)
          go_wp2
          refine hK _ _ (fun _ _ => ⟨⟨_, hx3'.allocR _⟩, rfl⟩) ?_
          clear hK K
          refine pi_end (by kernel_rfl) ?_
          go_wp2_with fail
          go_meet
          exact ⟨w3.heap.size, rfl, heap_at _ _ rfl, hx3'.allocR _, hs3⟩
        · go_wp2
          refine hK _ _ (fun _ h => af_step h (Ext.alloc' _ _)) ?_
          clear hK K
          refine pi_l 5 rfl (by kernel_rfl) (fun K hK => ?_)
          go_wp2_with (go_at_call 50; refine (Cut15_c C hok uk ud hu.1 hu.2 _).mono ?_; rintro e w3 ⟨rfl, hx3⟩)
          refine hK _ _ (fun _ h => af_step h hx3) ?_
          clear hK K
          have hs3 : (wr.alloc (.cells #[.int .u64 0, .int .i64 0] 38)).heap.size ≤ w3.heap.size := hx3.size
          rw [size_alloc] at hs3
          have hx3' : Ext wr w3 := Ext.trans' (Ext.alloc' wr _) (Ext.trans' (Below.drew (Ext.refl _)) hx3)
          have hbx : w3.heap[wr.heap.size]? = some (.cells #[.int .u64 0, .int .i64 0] 38 (0, 0)) := by
            rw [hx3.block _ (by show _ < (wr.alloc _).heap.size; rw [size_alloc]; exact Nat.lt_succ_self _)]
            exact heap_at wr _ rfl
          have p0 := (cell_of hbx 0).trans rfl
          have p1 := (cell_of hbx 1).trans rfl
          have f0 := frozen_of hbx 0
          have f1 := frozen_of hbx 1
          refine pi_l 7 rfl (by kernel_rfl) (fun K hK => ?_)
          go_wp2
          refine hK _ _ (fun _ _ => ⟨⟨_, (hx3'.setR (Nat.le_refl _) _).setR (Nat.le_refl _) _⟩, rfl⟩) ?_
          clear hK K
          refine pi_end (by kernel_rfl) ?_
          go_wp2_with fail
          go_meet
          exact ⟨wr.heap.size, rfl, set2 hbx _ _, (hx3'.setR (Nat.le_refl _) _).setR (Nat.le_refl _) _, Nat.le_refl _⟩
      case rest =>
        obtain ⟨bu, rfl, hbu, hxw, hbul⟩ := hcut
        have hdb := cutD_bd C.mode ud
        have b1 := (cell_of hbu 1).trans rfl
        have b0 := (cell_of hbu 0).trans rfl
        have hE' : Ext w wc := hE.trans' hxw
        have hC' := HC.out.ext hxw
        clear d0 d1 c0 c1 c2 c3 c4 hE hxw
        have hkk0 := (cutK_bd C hok 0 uk (Int.le_refl 0)).1
        generalize cutK C 0 uk = kk at *
        generalize cutD C.mode ud = dd at *
        by_cases h1 : lo ≤ kk
        · by_cases h2 : kk ≤ hi
          · have g1 : inB lo hi kk = true := by unfold inB; rw [decide_eq_true h1, decide_eq_true h2]; rfl
            have hs' := HSN.out
            rw [g1] at hs'
            have HS := Lib.hid hs'
            clear hs' HSN g1
            go_wp2_with fail
            go_roundw
            case rel => exact ⟨k + 1, by omega, by omega, by rw [HS.out]; rfl, by go_num, hE', hC'⟩
            case measure => simp [intOf]; omega
          · have g1 : inB lo hi kk = false := by unfold inB; rw [decide_eq_true h1, decide_eq_false h2]; rfl
            have hs' := HSN.out
            rw [g1] at hs'
            have HS := Lib.hid hs'
            clear hs' HSN g1
            go_wp2_with fail
            go_roundw
            case rel => exact ⟨k + 1, by omega, by omega, by rw [HS.out]; exact congrArg _ (Int.add_zero _).symm, by go_num, hE', hC'⟩
            case measure => simp [intOf]; omega
        · have g1 : inB lo hi kk = false := by unfold inB; rw [decide_eq_false h1]; rfl
          have hs' := HSN.out
          rw [g1] at hs'
          have HS := Lib.hid hs'
          clear hs' HSN g1
          go_wp2_with fail
          go_roundw
          case rel => exact ⟨k + 1, by omega, by omega, by rw [HS.out]; exact congrArg _ (Int.add_zero _).symm, by go_num, hE', hC'⟩
          case measure => simp [intOf]; omega
    · have hfe := fus_end us (i := 0) (j := 60) (k := k) (by omega) (by omega) (.inr ⟨hk60, hkl⟩) hgo
      have hfe' : betK C us k lo hi = betK C us 60 lo hi := by unfold betK; rw [hfe]
      rw [hfe']
      go_wp2_with fail
      all_goals
        go_ret
        exact ⟨rfl, hE⟩
end Go.Proofs.Ytpnbgoahjoabkaa

/- Plain law: the way down to a rank's key. -/
namespace Go.Proofs.Ytpnbgoahjoabkaa
set_option linter.unusedVariables false
open Go.RowKit

/-- The way down from piece i of level n, k being asked. -/
def wayL (pt : Nat → Int → Int) : Nat → Int → Int → List (Nat × Int)
  | 0, _, _ => []
  | n + 1, i, k => if k ≤ pt n (2 * i) then (n, 2 * i) :: wayL pt n (2 * i) k else (n, 2 * i + 1) :: wayL pt n (2 * i + 1) (k - pt n (2 * i))
/-- The key at its end. -/
def wayI (pt : Nat → Int → Int) : Nat → Int → Int → Int
  | 0, i, _ => i
  | n + 1, i, k => if k ≤ pt n (2 * i) then wayI pt n (2 * i) k else wayI pt n (2 * i + 1) (k - pt n (2 * i))
/-- What is too much on the way. -/
def wayO (pt S : Nat → Int → Int) : Nat → Int → Int → Int
  | 0, _, _ => 0
  | n + 1, i, k => (pt n (2 * i) - S n (2 * i)) + if k ≤ pt n (2 * i) then wayO pt S n (2 * i) k else wayO pt S n (2 * i + 1) (k - pt n (2 * i))
theorem wayL_len (pt : Nat → Int → Int) : ∀ (n : Nat) (i k : Int), (wayL pt n i k).length = n
  | 0, _, _ => rfl
  | n + 1, i, k => by
    unfold wayL
    split <;> rw [List.length_cons, wayL_len]
theorem sh_succ (n : Nat) (u : Int) : sh (n + 1) u = sh n u / 2 := by
  unfold sh
  rw [Int.pow_succ, Int.ediv_ediv_of_nonneg (Int.le_of_lt (Int.pow_pos (by decide)))]
theorem wayI_sh (pt : Nat → Int → Int) : ∀ (n : Nat) (i k : Int), sh n (wayI pt n i k) = i
  | 0, i, k => sh_zero _
  | n + 1, i, k => by
    unfold wayI
    rw [sh_succ]
    split
    · rw [wayI_sh pt n]; omega
    · rw [wayI_sh pt n]; omega
theorem sh_mono {a b : Int} (h : a ≤ b) (n : Nat) : sh n a ≤ sh n b := Int.ediv_le_ediv (Int.pow_pos (by decide)) h
theorem lt_sh {a b : Int} {n : Nat} (h : sh n a < sh n b) : a < b := by
  rcases Int.lt_or_le a b with h' | h'
  · exact h'
  · have := sh_mono h' n; omega
/-- A greater rank never leads to a lesser key. -/
theorem wayI_mono (pt : Nat → Int → Int) : ∀ (n : Nat) (i k k' : Int), k ≤ k' → wayI pt n i k ≤ wayI pt n i k'
  | 0, _, _, _, _ => Int.le_refl _
  | n + 1, i, k, k', h => by
    unfold wayI
    by_cases h1 : k ≤ pt n (2 * i)
    · rw [if_pos h1]
      by_cases h2 : k' ≤ pt n (2 * i)
      · rw [if_pos h2]; exact wayI_mono pt n _ _ _ h
      · rw [if_neg h2]
        refine Int.le_of_lt (lt_sh (n := n) ?_)
        rw [wayI_sh, wayI_sh]; omega
    · rw [if_neg h1, if_neg (by omega)]
      exact wayI_mono pt n _ _ _ (by omega)
/-- What the keys of a piece have, that are not greater than x. -/
def upS (ps : List (Int × Int)) (n : Nat) (i x : Int) : Int := sumIf (fun u => sh n u == i && decide (u ≤ x)) ps
def loS (ps : List (Int × Int)) (n : Nat) (i x : Int) : Int := sumIf (fun u => sh n u == i && decide (u < x)) ps
def pcS (ps : List (Int × Int)) (n : Nat) (i : Int) : Int := sumIf (fun u => sh n u == i) ps
theorem sumIf_ext {p q : Int → Bool} (ps : List (Int × Int)) (h : ∀ u, p u = q u) : sumIf p ps = sumIf q ps := sumIf_congr fun u _ => h u.1
theorem beq_iff' {a b c d : Int} (h : a = b ↔ c = d) : (a == b) = (c == d) := by
  by_cases h1 : a = b
  · rw [beq_iff_eq.2 h1, beq_iff_eq.2 (h.1 h1)]
  · have h2 : ¬ c = d := fun e => h1 (h.2 e)
    rw [beq_eq_false_iff_ne.2 h1, beq_eq_false_iff_ne.2 h2]
theorem pcS_split (ps : List (Int × Int)) (n : Nat) (i : Int) : pcS ps (n + 1) i = pcS ps n (2 * i) + pcS ps n (2 * i + 1) := by
  unfold pcS
  rw [sumIf_split _ (fun u => sh n u == 2 * i) ps]
  congr 1
  · refine sumIf_ext ps fun u => ?_
    rw [sh_succ, Bool.eq_iff_iff]; simp only [Bool.and_eq_true, beq_iff_eq]; omega
  · refine sumIf_ext ps fun u => ?_
    rw [sh_succ, Bool.eq_iff_iff]; simp only [Bool.and_eq_true, beq_iff_eq, Bool.not_eq_true', beq_eq_false_iff_ne, ne_eq]; omega
theorem le_left {n : Nat} {i u x : Int} (hx : sh n x = i) (hu : u ≤ x) : sh n u ≤ i := by have := sh_mono hu n; omega
theorem upS_left (ps : List (Int × Int)) (n : Nat) {i x : Int} (hx : sh n x = 2 * i) : upS ps (n + 1) i x = upS ps n (2 * i) x := by
  refine sumIf_ext ps fun u => ?_
  have hm := fun h => le_left (u := u) hx h
  rw [sh_succ, Bool.eq_iff_iff]; simp only [Bool.and_eq_true, beq_iff_eq, decide_eq_true_eq]
  constructor
  · rintro ⟨a, b⟩; have := hm b; exact ⟨by omega, b⟩
  · rintro ⟨a, b⟩; exact ⟨by omega, b⟩
theorem loS_left (ps : List (Int × Int)) (n : Nat) {i x : Int} (hx : sh n x = 2 * i) : loS ps (n + 1) i x = loS ps n (2 * i) x := by
  refine sumIf_ext ps fun u => ?_
  have hm := fun h => le_left (u := u) hx (Int.le_of_lt h)
  rw [sh_succ, Bool.eq_iff_iff]; simp only [Bool.and_eq_true, beq_iff_eq, decide_eq_true_eq]
  constructor
  · rintro ⟨a, b⟩; have := hm b; exact ⟨by omega, b⟩
  · rintro ⟨a, b⟩; exact ⟨by omega, b⟩
theorem upS_right (ps : List (Int × Int)) (n : Nat) {i x : Int} (hx : sh n x = 2 * i + 1) : upS ps (n + 1) i x = pcS ps n (2 * i) + upS ps n (2 * i + 1) x := by
  unfold upS pcS
  rw [sumIf_split _ (fun u => sh n u == 2 * i) ps]
  congr 1
  · refine sumIf_ext ps fun u => ?_
    have hm : sh n u < sh n x → u ≤ x := fun h => Int.le_of_lt (lt_sh h)
    rw [sh_succ, Bool.eq_iff_iff]; simp only [Bool.and_eq_true, beq_iff_eq, decide_eq_true_eq]
    constructor
    · rintro ⟨_, b⟩; exact b
    · intro b; exact ⟨⟨by omega, hm (by omega)⟩, b⟩
  · refine sumIf_ext ps fun u => ?_
    rw [sh_succ, Bool.eq_iff_iff]; simp only [Bool.and_eq_true, beq_iff_eq, Bool.not_eq_true', beq_eq_false_iff_ne, ne_eq, decide_eq_true_eq]
    constructor
    · rintro ⟨⟨a, c⟩, b⟩; exact ⟨by omega, c⟩
    · rintro ⟨a, c⟩; exact ⟨⟨by omega, c⟩, by omega⟩
theorem loS_right (ps : List (Int × Int)) (n : Nat) {i x : Int} (hx : sh n x = 2 * i + 1) : loS ps (n + 1) i x = pcS ps n (2 * i) + loS ps n (2 * i + 1) x := by
  unfold loS pcS
  rw [sumIf_split _ (fun u => sh n u == 2 * i) ps]
  congr 1
  · refine sumIf_ext ps fun u => ?_
    have hm : sh n u < sh n x → u < x := fun h => lt_sh h
    rw [sh_succ, Bool.eq_iff_iff]; simp only [Bool.and_eq_true, beq_iff_eq, decide_eq_true_eq]
    constructor
    · rintro ⟨_, b⟩; exact b
    · intro b; exact ⟨⟨by omega, hm (by omega)⟩, b⟩
  · refine sumIf_ext ps fun u => ?_
    rw [sh_succ, Bool.eq_iff_iff]; simp only [Bool.and_eq_true, beq_iff_eq, Bool.not_eq_true', beq_eq_false_iff_ne, ne_eq, decide_eq_true_eq]
    constructor
    · rintro ⟨⟨a, c⟩, b⟩; exact ⟨by omega, c⟩
    · rintro ⟨a, c⟩; exact ⟨⟨by omega, c⟩, by omega⟩
theorem sumIf_none : ∀ ps : List (Int × Int), sumIf (fun _ => false) ps = 0
  | [] => rfl
  | u :: ps => by rw [sumIf_cons, sumIf_none ps]; rfl
/-- All keys below the answer have less than the rank. -/
theorem way_below {pt : Nat → Int → Int} {ps : List (Int × Int)} (hge : ∀ n i, 0 ≤ i → pcS ps n i ≤ pt n i) : ∀ (n : Nat) (i k : Int), 0 ≤ i → 1 ≤ k → loS ps n i (wayI pt n i k) < k
  | 0, i, k, h0, hk => by
    show loS ps 0 i i < k
    have : loS ps 0 i i = 0 := by
      unfold loS
      rw [sumIf_ext (q := fun _ => false) ps (fun u => by rw [sh_zero, Bool.eq_iff_iff]; simp only [Bool.and_eq_true, beq_iff_eq, decide_eq_true_eq, Bool.false_eq_true, iff_false]; omega)]
      exact sumIf_none ps
    omega
  | n + 1, i, k, h0, hk => by
    have hg := hge n (2 * i) (by omega)
    unfold wayI
    by_cases h1 : k ≤ pt n (2 * i)
    · rw [if_pos h1, loS_left ps n (wayI_sh pt n _ _)]
      exact way_below hge n _ _ (by omega) hk
    · rw [if_neg h1, loS_right ps n (wayI_sh pt n _ _)]
      have := way_below hge n (2 * i + 1) (k - pt n (2 * i)) (by omega) (by omega)
      omega
/-- The rank is not more than what all up to the answer have, and what is too much. -/
theorem way_upto {pt : Nat → Int → Int} {ps : List (Int × Int)} (hge : ∀ n i, 0 ≤ i → pcS ps n i ≤ pt n i) : ∀ (n : Nat) (i k e : Int), 0 ≤ i → 0 ≤ e → k ≤ pcS ps n i + e → k ≤ upS ps n i (wayI pt n i k) + e + wayO pt (pcS ps) n i k
  | 0, i, k, e, h0, he, hk => by
    show k ≤ upS ps 0 i i + e + 0
    have : upS ps 0 i i = pcS ps 0 i := by
      refine sumIf_ext ps fun u => ?_
      rw [sh_zero, Bool.eq_iff_iff]; simp only [Bool.and_eq_true, beq_iff_eq, decide_eq_true_eq]; omega
    omega
  | n + 1, i, k, e, h0, he, hk => by
    have hg := hge n (2 * i) (by omega)
    rw [pcS_split] at hk
    unfold wayI wayO
    by_cases h1 : k ≤ pt n (2 * i)
    · rw [if_pos h1, if_pos h1, upS_left ps n (wayI_sh pt n _ _)]
      have := way_upto hge n (2 * i) k (pt n (2 * i) - pcS ps n (2 * i)) (by omega) (by omega) (by omega)
      omega
    · rw [if_neg h1, if_neg h1, upS_right ps n (wayI_sh pt n _ _)]
      have := way_upto hge n (2 * i + 1) (k - pt n (2 * i)) e (by omega) he (by omega)
      omega
theorem wayO_nn {pt : Nat → Int → Int} {ps : List (Int × Int)} (hge : ∀ n i, 0 ≤ i → pcS ps n i ≤ pt n i) : ∀ (n : Nat) (i k : Int), 0 ≤ i → 0 ≤ wayO pt (pcS ps) n i k
  | 0, _, _, _ => Int.le_refl _
  | n + 1, i, k, h0 => by
    have hg := hge n (2 * i) (by omega)
    unfold wayO
    by_cases h1 : k ≤ pt n (2 * i)
    · rw [if_pos h1]; have := wayO_nn hge n (2 * i) k (by omega); omega
    · rw [if_neg h1]; have := wayO_nn hge n (2 * i + 1) (k - pt n (2 * i)) (by omega); omega
end Go.Proofs.Ytpnbgoahjoabkaa

/- Plain law: a span is cut into pieces, from both sides or from the left: the same pieces; what they have together. -/
namespace Go.Proofs.Ytpnbgoahjoabkaa
set_option linter.unusedVariables false
open Go.RowKit
/-- The pieces of a span, from both sides, level by level. -/
def covL : Nat → Nat → Int → Int → List (Nat × Int)
  | 0, l, lo, _ => [(l, lo)]
  | f + 1, l, lo, hi =>
    if lo = hi then [(l, lo)]
    else (if lo % 2 = 1 then [(l, lo)] else []) ++
      ((if (if hi % 2 = 0 then hi - 1 else hi) < (if lo % 2 = 1 then lo + 1 else lo) then [] else covL f (l + 1) ((if lo % 2 = 1 then lo + 1 else lo) / 2) ((if hi % 2 = 0 then hi - 1 else hi) / 2)) ++
      (if hi % 2 = 0 then [(l, hi)] else []))
/-- Pieces one behind the other, from a key up to another. -/
def Chain (lo e : Int) : List (Nat × Int) → Prop
  | [] => lo = e
  | p :: ps => p.2 * 2 ^ p.1 = lo ∧ Chain (lo + 2 ^ p.1) e ps
/-- No greater piece lies there. -/
def Great (lo e : Int) (p : Nat × Int) : Prop := ¬ (lo ≤ p.2 / 2 * 2 ^ (p.1 + 1) ∧ (p.2 / 2 + 1) * 2 ^ (p.1 + 1) ≤ e)
theorem pw (n : Nat) : (0 : Int) < 2 ^ n := Int.pow_pos (by decide)
theorem chain_le {lo e : Int} : ∀ {ps : List (Nat × Int)}, Chain lo e ps → lo ≤ e
  | [], h => Int.le_of_eq h
  | p :: ps, ⟨_, h⟩ => by have := chain_le h; have := pw p.1; omega
theorem chain_app {m e : Int} {qs : List (Nat × Int)} (h2 : Chain m e qs) : ∀ {lo : Int} {ps : List (Nat × Int)}, Chain lo m ps → Chain lo e (ps ++ qs)
  | lo, [], h => by have h' : lo = m := h; subst h'; exact h2
  | lo, p :: ps, ⟨h, h1⟩ => ⟨h, chain_app h2 h1⟩
theorem chain_one (l : Nat) (i : Int) : Chain (i * 2 ^ l) ((i + 1) * 2 ^ l) [(l, i)] := ⟨rfl, by show i * 2 ^ l + 2 ^ l = (i + 1) * 2 ^ l; rw [Int.add_mul, Int.one_mul]⟩
theorem pw_succ (n : Nat) : (2 : Int) ^ (n + 1) = 2 * 2 ^ n := by rw [Int.pow_succ, Int.mul_comm]
theorem cov_chain : ∀ (f l : Nat) (lo hi : Int), 0 ≤ lo → lo ≤ hi → hi < 2 ^ f → Chain (lo * 2 ^ l) ((hi + 1) * 2 ^ l) (covL f l lo hi)
  | 0, l, lo, hi, h0, h1, h2 => by
    have : hi < 1 := h2
    have e : hi = lo := by omega
    subst e
    exact chain_one l hi
  | f + 1, l, lo, hi, h0, h1, h2 => by
    rw [pw_succ] at h2
    unfold covL
    by_cases he : lo = hi
    · subst he
      rw [if_pos rfl]
      exact chain_one l lo
    · rw [if_neg he]
      have ha : Chain (lo * 2 ^ l) ((if lo % 2 = 1 then lo + 1 else lo) * 2 ^ l) (if lo % 2 = 1 then [(l, lo)] else []) := by
        by_cases h : lo % 2 = 1
        · rw [if_pos h, if_pos h]; exact chain_one l lo
        · rw [if_neg h, if_neg h]; rfl
      have hb : Chain (((if hi % 2 = 0 then hi - 1 else hi) + 1) * 2 ^ l) ((hi + 1) * 2 ^ l) (if hi % 2 = 0 then [(l, hi)] else []) := by
        by_cases h : hi % 2 = 0
        · rw [if_pos h, if_pos h, show hi - 1 + 1 = hi by omega]; exact chain_one l hi
        · rw [if_neg h, if_neg h]; rfl
      have h3 : (if lo % 2 = 1 then lo + 1 else lo) % 2 = 0 ∧ 0 ≤ (if lo % 2 = 1 then lo + 1 else lo) ∧ (if lo % 2 = 1 then lo + 1 else lo) ≤ hi := by split <;> omega
      have h4 : (if hi % 2 = 0 then hi - 1 else hi) % 2 = 1 ∧ (if hi % 2 = 0 then hi - 1 else hi) ≤ hi ∧ lo ≤ (if hi % 2 = 0 then hi - 1 else hi) := by split <;> omega
      have h5 : (if lo % 2 = 1 then lo + 1 else lo) ≤ (if hi % 2 = 0 then hi - 1 else hi) + 1 := by split <;> split <;> omega
      refine chain_app (chain_app hb ?_) ha
      generalize (if lo % 2 = 1 then lo + 1 else lo) = a at *
      generalize (if hi % 2 = 0 then hi - 1 else hi) = b at *
      by_cases hlt : b < a
      · rw [if_pos hlt]
        have : a = b + 1 := by omega
        rw [this]; rfl
      · rw [if_neg hlt]
        have ih := cov_chain f (l + 1) (a / 2) (b / 2) (by omega) (by omega) (by omega)
        rw [pw_succ, show a / 2 * (2 * 2 ^ l) = a * 2 ^ l by rw [← Int.mul_assoc]; congr 1; omega, show (b / 2 + 1) * (2 * 2 ^ l) = (b + 1) * 2 ^ l by rw [← Int.mul_assoc]; congr 1; omega] at ih
        exact ih
theorem cov_lev : ∀ (f l : Nat) (lo hi : Int), ∀ p ∈ covL f l lo hi, l ≤ p.1 ∧ p.1 ≤ l + f
  | 0, l, lo, hi, p, hp => by
    simp only [covL, List.mem_singleton] at hp
    subst hp
    exact ⟨Nat.le_refl _, Nat.le_refl _⟩
  | f + 1, l, lo, hi, p, hp => by
    unfold covL at hp
    by_cases he : lo = hi
    · rw [if_pos he] at hp
      simp only [List.mem_singleton] at hp
      subst hp
      exact ⟨Nat.le_refl _, by simp⟩
    · rw [if_neg he] at hp
      simp only [List.mem_append] at hp
      rcases hp with hp | hp | hp
      · split at hp
        · simp only [List.mem_singleton] at hp; subst hp; exact ⟨Nat.le_refl _, by simp⟩
        · cases hp
      · by_cases hc : (if hi % 2 = 0 then hi - 1 else hi) < (if lo % 2 = 1 then lo + 1 else lo)
        · rw [if_pos hc] at hp; cases hp
        · rw [if_neg hc] at hp
          have := cov_lev f (l + 1) _ _ p hp
          omega
      · split at hp
        · simp only [List.mem_singleton] at hp; subst hp; exact ⟨Nat.le_refl _, by simp⟩
        · cases hp
/-- Multiples of a greater number. -/
theorem grow_l {P k x lo : Int} {m : Nat} (hP : 0 < P) (hk : k = 2 ^ (m + 1) * P) (h : lo * P ≤ x * k) (ho : lo % 2 = 1) : (lo + 1) * P ≤ x * k := by
  have e : x * k = (2 * (x * 2 ^ m)) * P := by rw [hk, pw_succ]; ac_rfl
  rw [e] at h ⊢
  have := Int.le_of_mul_le_mul_right h hP
  exact Int.mul_le_mul_of_nonneg_right (by omega) (Int.le_of_lt hP)
theorem grow_r {P k x e : Int} {m : Nat} (hP : 0 < P) (hk : k = 2 ^ (m + 1) * P) (h : x * k ≤ (e + 1) * P) (ho : e % 2 = 0) : x * k ≤ e * P := by
  have e' : x * k = (2 * (x * 2 ^ m)) * P := by rw [hk, pw_succ]; ac_rfl
  rw [e'] at h ⊢
  have := Int.le_of_mul_le_mul_right h hP
  exact Int.mul_le_mul_of_nonneg_right (by omega) (Int.le_of_lt hP)
theorem cov_great : ∀ (f l : Nat) (lo hi : Int), 0 ≤ lo → lo ≤ hi → hi < 2 ^ f → ∀ p ∈ covL f l lo hi, Great (lo * 2 ^ l) ((hi + 1) * 2 ^ l) p
  | f, l, lo, hi, h0, h1, h2 => by
    have hP := pw l
    have one_l : lo % 2 = 1 → Great (lo * 2 ^ l) ((hi + 1) * 2 ^ l) (l, lo) := by
      rintro h ⟨h3, _⟩
      simp only [pw_succ] at h3
      rw [show lo / 2 * (2 * 2 ^ l) = (lo - 1) * 2 ^ l by rw [← Int.mul_assoc]; congr 1; omega] at h3
      have := Int.le_of_mul_le_mul_right h3 hP
      omega
    have one_r : hi % 2 = 0 → Great (lo * 2 ^ l) ((hi + 1) * 2 ^ l) (l, hi) := by
      rintro h ⟨_, h3⟩
      simp only [pw_succ] at h3
      rw [show (hi / 2 + 1) * (2 * 2 ^ l) = (hi + 2) * 2 ^ l by rw [← Int.mul_assoc]; congr 1; omega] at h3
      have := Int.le_of_mul_le_mul_right h3 hP
      omega
    have same : lo = hi → Great (lo * 2 ^ l) ((hi + 1) * 2 ^ l) (l, lo) := by
      intro e
      by_cases h : lo % 2 = 1
      · exact one_l h
      · have := one_r (by omega)
        rw [← e] at this ⊢
        exact this
    cases f with
    | zero =>
      have : hi < 1 := h2
      intro p hp
      simp only [covL, List.mem_singleton] at hp
      subst hp
      exact same (by omega)
    | succ f =>
      rw [pw_succ] at h2
      intro p hp
      unfold covL at hp
      by_cases he : lo = hi
      · rw [if_pos he] at hp
        simp only [List.mem_singleton] at hp
        subst hp
        exact same he
      · rw [if_neg he] at hp
        simp only [List.mem_append] at hp
        rcases hp with hp | hp | hp
        · by_cases h : lo % 2 = 1
          · rw [if_pos h] at hp
            simp only [List.mem_singleton] at hp
            subst hp
            exact one_l h
          · rw [if_neg h] at hp; cases hp
        · have h3 : (if lo % 2 = 1 then lo + 1 else lo) % 2 = 0 ∧ 0 ≤ (if lo % 2 = 1 then lo + 1 else lo) ∧ ((if lo % 2 = 1 then lo + 1 else lo) = lo ∨ lo % 2 = 1 ∧ (if lo % 2 = 1 then lo + 1 else lo) = lo + 1) := by split <;> omega
          have h4 : (if hi % 2 = 0 then hi - 1 else hi) % 2 = 1 ∧ (if hi % 2 = 0 then hi - 1 else hi) ≤ hi ∧ ((if hi % 2 = 0 then hi - 1 else hi) = hi ∨ hi % 2 = 0 ∧ (if hi % 2 = 0 then hi - 1 else hi) = hi - 1) := by split <;> omega
          generalize (if lo % 2 = 1 then lo + 1 else lo) = a at *
          generalize (if hi % 2 = 0 then hi - 1 else hi) = b at *
          by_cases hc : b < a
          · rw [if_pos hc] at hp; cases hp
          · rw [if_neg hc] at hp
            have ih := cov_great f (l + 1) (a / 2) (b / 2) (by omega) (by omega) (by omega) p hp
            obtain ⟨hl, _⟩ := cov_lev f (l + 1) _ _ p hp
            rw [pw_succ, show a / 2 * (2 * 2 ^ l) = a * 2 ^ l by rw [← Int.mul_assoc]; congr 1; omega, show (b / 2 + 1) * (2 * 2 ^ l) = (b + 1) * 2 ^ l by rw [← Int.mul_assoc]; congr 1; omega] at ih
            rintro ⟨g1, g2⟩
            have hk : (2 : Int) ^ (p.1 + 1) = 2 ^ (p.1 - l + 1) * 2 ^ l := by
              rw [← Int.pow_add]; congr 1; omega
            refine ih ⟨?_, ?_⟩
            · rcases h3.2.2 with e | ⟨ho, e⟩
              · rw [e]; exact g1
              · rw [e]; exact grow_l hP hk g1 ho
            · rcases h4.2.2 with e | ⟨ho, e⟩
              · rw [e]; exact g2
              · rw [e, show hi - 1 + 1 = hi by omega]; exact grow_r hP hk g2 ho
        · by_cases h : hi % 2 = 0
          · rw [if_pos h] at hp
            simp only [List.mem_singleton] at hp
            subst hp
            exact one_r h
          · rw [if_neg h] at hp; cases hp
/-- The greatest piece that fits at the left. -/
def gLev (lo hi : Int) : Nat → Nat → Nat
  | 0, l => l
  | f + 1, l => if lo % 2 ^ (l + 1) = 0 ∧ 2 ^ (l + 1) - 1 ≤ hi - lo then gLev lo hi f (l + 1) else l
def gCov (B : Nat) (hi : Int) : Nat → Int → List (Nat × Int)
  | 0, _ => []
  | f + 1, lo => if lo ≤ hi then (gLev lo hi B 0, lo / 2 ^ gLev lo hi B 0) :: gCov B hi f (lo + 2 ^ gLev lo hi B 0) else []
theorem gLev_eq {lo hi : Int} {m : Nat} (hm : ∀ j, j ≤ m → lo % 2 ^ j = 0 ∧ 2 ^ j - 1 ≤ hi - lo) : ∀ (f l : Nat), l ≤ m → m ≤ l + f → (m = l + f ∨ ¬ (lo % 2 ^ (m + 1) = 0 ∧ 2 ^ (m + 1) - 1 ≤ hi - lo)) → gLev lo hi f l = m
  | 0, l, h1, h2, _ => by show l = m; omega
  | f + 1, l, h1, h2, h3 => by
    unfold gLev
    by_cases e : l = m
    · subst e
      rw [if_neg (h3.resolve_left (by omega))]
    · rw [if_pos (hm (l + 1) (by omega))]
      exact gLev_eq hm f (l + 1) (by omega) (by omega) (by omega)
theorem great_mono {lo lo' e : Int} {p : Nat × Int} (h : Great lo e p) (hl : lo ≤ lo') : Great lo' e p := fun ⟨a, b⟩ => h ⟨by omega, b⟩
theorem gCov_eq {B : Nat} {hi : Int} : ∀ (ps : List (Nat × Int)) (f : Nat) (lo : Int), Chain lo (hi + 1) ps → (∀ p ∈ ps, Great lo (hi + 1) p ∧ p.1 ≤ B) → ps.length < f → gCov B hi f lo = ps
  | _, 0, _, _, _, hf => by omega
  | [], f + 1, lo, hc, _, _ => by
    have : lo = hi + 1 := hc
    unfold gCov
    rw [if_neg (by omega)]
  | p :: ps, f + 1, lo, hc, hg, hf => by
    obtain ⟨hp1, hc'⟩ := hc
    have hle := chain_le hc'
    have hpp := pw p.1
    obtain ⟨hgr, hpB⟩ := hg p (by simp)
    have hlev : gLev lo hi B 0 = p.1 := by
      refine gLev_eq (m := p.1) (fun j hj => ?_) B 0 (Nat.zero_le _) (by omega) ?_
      · have e : (2 : Int) ^ p.1 = 2 ^ (p.1 - j) * 2 ^ j := by rw [← Int.pow_add]; congr 1; omega
        have h1 : (1 : Int) ≤ 2 ^ (p.1 - j) := pw (p.1 - j)
        have h2 : (2 : Int) ^ j ≤ 2 ^ p.1 := by
          rw [e]
          have := Int.mul_le_mul_of_nonneg_right h1 (Int.le_of_lt (pw j))
          omega
        refine ⟨?_, by omega⟩
        rw [← hp1, e, ← Int.mul_assoc]
        exact Int.mul_emod_left _ _
      · refine .inr ?_
        rintro ⟨h1, h2⟩
        refine hgr ?_
        rw [pw_succ] at h1 h2 ⊢
        have he : p.2 % 2 = 0 := by
          rw [← hp1] at h1
          have := Int.mul_emod_mul_of_pos p.2 2 hpp
          rw [Int.mul_comm, Int.mul_comm 2] at h1
          rw [this] at h1
          rcases Int.mul_eq_zero.1 h1 with h | h
          · omega
          · exact h
        have e1 : p.2 / 2 * (2 * 2 ^ p.1) = lo := by
          rw [← hp1, ← Int.mul_assoc]; congr 1; omega
        rw [Int.add_mul, e1]
        omega
    unfold gCov
    rw [if_pos (by omega), hlev, gCov_eq ps f _ hc' (fun q hq => ⟨great_mono (hg q (by simp [hq])).1 (by omega), (hg q (by simp [hq])).2⟩) (by simp at hf; omega)]
    congr 1
    rw [← hp1, Int.mul_ediv_cancel _ (by omega)]
theorem cov_len : ∀ (f l : Nat) (lo hi : Int), (covL f l lo hi).length ≤ 2 * f + 1
  | 0, _, _, _ => Nat.le_refl _
  | f + 1, l, lo, hi => by
    unfold covL
    split
    · simp
    · have := cov_len f (l + 1) ((if lo % 2 = 1 then lo + 1 else lo) / 2) ((if hi % 2 = 0 then hi - 1 else hi) / 2)
      simp only [List.length_append]
      split <;> split <;> split <;> simp_all <;> omega
/-- Both ways to cut a span give the same pieces. -/
theorem cov_same {B : Nat} {lo hi : Int} (h0 : 0 ≤ lo) (h1 : lo ≤ hi) (h2 : hi < 2 ^ B) {f : Nat} (hf : 2 * B + 1 < f) : gCov B hi f lo = covL B 0 lo hi := by
  have hc := cov_chain B 0 lo hi h0 h1 h2
  have hg := cov_great B 0 lo hi h0 h1 h2
  simp only [Int.pow_zero, Int.mul_one] at hc hg
  refine gCov_eq _ f lo hc (fun p hp => ⟨hg p hp, by have := cov_lev B 0 lo hi p hp; omega⟩) (by have := cov_len B 0 lo hi; omega)
theorem cov_bd : ∀ (f l : Nat) (lo hi : Int), 0 ≤ lo → lo ≤ hi → hi < 2 ^ f → ∀ p ∈ covL f l lo hi, 0 ≤ p.2 ∧ p.2 < 2 ^ (l + f - p.1)
  | 0, l, lo, hi, h0, h1, h2, p, hp => by
    have h2' : hi < 1 := h2
    simp only [covL, List.mem_singleton] at hp
    subst hp
    refine ⟨h0, ?_⟩
    show lo < 2 ^ (l + 0 - l)
    rw [Nat.add_zero, Nat.sub_self]
    show lo < 1
    omega
  | f + 1, l, lo, hi, h0, h1, h2, p, hp => by
    have hh := h2
    rw [pw_succ] at h2
    unfold covL at hp
    by_cases he : lo = hi
    · rw [if_pos he] at hp
      simp only [List.mem_singleton] at hp
      subst hp
      refine ⟨h0, ?_⟩
      show lo < 2 ^ (l + (f + 1) - l)
      rw [show l + (f + 1) - l = f + 1 by omega]; omega
    · rw [if_neg he] at hp
      simp only [List.mem_append] at hp
      rcases hp with hp | hp | hp
      · split at hp
        · simp only [List.mem_singleton] at hp; subst hp
          refine ⟨h0, ?_⟩
          show lo < 2 ^ (l + (f + 1) - l)
          rw [show l + (f + 1) - l = f + 1 by omega]; omega
        · cases hp
      · have h3 : 0 ≤ (if lo % 2 = 1 then lo + 1 else lo) := by split <;> omega
        have h4 : (if hi % 2 = 0 then hi - 1 else hi) ≤ hi := by split <;> omega
        generalize (if lo % 2 = 1 then lo + 1 else lo) = a at *
        generalize (if hi % 2 = 0 then hi - 1 else hi) = b at *
        by_cases hc : b < a
        · rw [if_pos hc] at hp; cases hp
        · rw [if_neg hc] at hp
          have := cov_bd f (l + 1) (a / 2) (b / 2) (by omega) (by omega) (by omega) p hp
          rw [show l + 1 + f = l + (f + 1) by omega] at this
          exact this
      · split at hp
        · simp only [List.mem_singleton] at hp; subst hp
          refine ⟨by omega, ?_⟩
          show hi < 2 ^ (l + (f + 1) - l)
          rw [show l + (f + 1) - l = f + 1 by omega]; omega
        · cases hp

theorem lsum_one (x : Int) : lsum [x] = x := by rw [lsum_cons, lsum_nil]; omega
/-- What the pieces have together is what the span has. -/
theorem cov_sum (ps : List (Int × Int)) : ∀ (f l : Nat) (lo hi : Int), 0 ≤ lo → lo ≤ hi → hi < 2 ^ f →
    lsum ((covL f l lo hi).map fun p => pcS ps p.1 p.2) = sumIf (fun u => decide (lo ≤ sh l u) && decide (sh l u ≤ hi)) ps
  | 0, l, lo, hi, h0, h1, h2 => by
    have : hi < 1 := h2
    show lsum [pcS ps l lo] = _
    rw [lsum_one]
    refine sumIf_ext ps fun u => ?_
    rw [Bool.eq_iff_iff]; simp only [Bool.and_eq_true, beq_iff_eq, decide_eq_true_eq]; omega
  | f + 1, l, lo, hi, h0, h1, h2 => by
    rw [pw_succ] at h2
    unfold covL
    by_cases he : lo = hi
    · rw [if_pos he]
      show lsum [pcS ps l lo] = _
      rw [lsum_one]
      refine sumIf_ext ps fun u => ?_
      rw [Bool.eq_iff_iff]; simp only [Bool.and_eq_true, beq_iff_eq, decide_eq_true_eq]; omega
    · rw [if_neg he, List.map_append, List.map_append, lsum_append, lsum_append]
      have ha : lsum ((if lo % 2 = 1 then [(l, lo)] else []).map fun p => pcS ps p.1 p.2) = sumIf (fun u => decide (lo ≤ sh l u) && decide (sh l u < (if lo % 2 = 1 then lo + 1 else lo))) ps := by
        by_cases h : lo % 2 = 1
        · rw [if_pos h, if_pos h]
          show lsum [pcS ps l lo] = _
          rw [lsum_one]
          refine sumIf_ext ps fun u => ?_
          rw [Bool.eq_iff_iff]; simp only [Bool.and_eq_true, beq_iff_eq, decide_eq_true_eq]; omega
        · rw [if_neg h, if_neg h]
          rw [sumIf_ext (q := fun _ => false) ps (fun u => by rw [Bool.eq_iff_iff]; simp only [Bool.and_eq_true, decide_eq_true_eq, Bool.false_eq_true, iff_false]; omega), sumIf_none]
          rfl
      have hb : lsum ((if hi % 2 = 0 then [(l, hi)] else []).map fun p => pcS ps p.1 p.2) = sumIf (fun u => decide ((if hi % 2 = 0 then hi - 1 else hi) < sh l u) && decide (sh l u ≤ hi)) ps := by
        by_cases h : hi % 2 = 0
        · rw [if_pos h, if_pos h]
          show lsum [pcS ps l hi] = _
          rw [lsum_one]
          refine sumIf_ext ps fun u => ?_
          rw [Bool.eq_iff_iff]; simp only [Bool.and_eq_true, beq_iff_eq, decide_eq_true_eq]; omega
        · rw [if_neg h, if_neg h]
          rw [sumIf_ext (q := fun _ => false) ps (fun u => by rw [Bool.eq_iff_iff]; simp only [Bool.and_eq_true, decide_eq_true_eq, Bool.false_eq_true, iff_false]; omega), sumIf_none]
          rfl
      have h3 : (if lo % 2 = 1 then lo + 1 else lo) % 2 = 0 ∧ lo ≤ (if lo % 2 = 1 then lo + 1 else lo) ∧ (if lo % 2 = 1 then lo + 1 else lo) ≤ hi := by split <;> omega
      have h4 : (if hi % 2 = 0 then hi - 1 else hi) % 2 = 1 ∧ (if hi % 2 = 0 then hi - 1 else hi) ≤ hi ∧ lo ≤ (if hi % 2 = 0 then hi - 1 else hi) := by split <;> omega
      have h5 : (if lo % 2 = 1 then lo + 1 else lo) ≤ (if hi % 2 = 0 then hi - 1 else hi) + 1 := by split <;> split <;> omega
      rw [ha, hb]
      generalize (if lo % 2 = 1 then lo + 1 else lo) = a at *
      generalize (if hi % 2 = 0 then hi - 1 else hi) = b at *
      have hm : lsum ((if b < a then [] else covL f (l + 1) (a / 2) (b / 2)).map fun p => pcS ps p.1 p.2) = sumIf (fun u => decide (a ≤ sh l u) && decide (sh l u ≤ b)) ps := by
        by_cases hc : b < a
        · rw [if_pos hc]
          rw [sumIf_ext (q := fun _ => false) ps (fun u => by rw [Bool.eq_iff_iff]; simp only [Bool.and_eq_true, decide_eq_true_eq, Bool.false_eq_true, iff_false]; omega), sumIf_none]
          rfl
        · rw [if_neg hc, cov_sum ps f (l + 1) (a / 2) (b / 2) (by omega) (by omega) (by omega)]
          refine sumIf_ext ps fun u => ?_
          rw [sh_succ, Bool.eq_iff_iff]; simp only [Bool.and_eq_true, decide_eq_true_eq]; omega
      rw [hm, sumIf_split (fun u => decide (lo ≤ sh l u) && decide (sh l u ≤ hi)) (fun u => decide (sh l u < a)) ps,
        sumIf_split (fun u => (decide (lo ≤ sh l u) && decide (sh l u ≤ hi)) && !decide (sh l u < a)) (fun u => decide (sh l u ≤ b)) ps]
      congr 1
      · refine sumIf_ext ps fun u => ?_
        rw [Bool.eq_iff_iff]; simp only [Bool.and_eq_true, decide_eq_true_eq]; omega
      · congr 1
        · refine sumIf_ext ps fun u => ?_
          rw [Bool.eq_iff_iff]; simp only [Bool.and_eq_true, Bool.not_eq_true', decide_eq_true_eq, decide_eq_false_iff_not]; omega
        · refine sumIf_ext ps fun u => ?_
          rw [Bool.eq_iff_iff]; simp only [Bool.and_eq_true, Bool.not_eq_true', decide_eq_true_eq, decide_eq_false_iff_not]; omega
/-- What the pieces of a span have of updates. -/
theorem cov_bet {C : Cfg} {B : Nat} {lo hi : Int} (h0 : 0 ≤ lo) (h1 : lo ≤ hi) (h2 : hi < 2 ^ B) (us : List (Int × Int)) :
    lsum ((covL B 0 lo hi).map fun p => pcS (stP C 0 (fus us 0 60)) p.1 p.2) = betK C us 60 lo hi := by
  rw [cov_sum _ B 0 lo hi h0 h1 h2]
  refine sumIf_ext _ fun u => ?_
  rw [sh_zero]; rfl
theorem cov_all (B : Nat) : ∀ (f l : Nat), covL f l 0 (2 ^ f - 1) = [(l + f, 0)]
  | 0, l => rfl
  | f + 1, l => by
    have hp := pw f
    have e : (2 : Int) ^ (f + 1) = 2 * 2 ^ f := pw_succ f
    unfold covL
    rw [e, if_neg (by omega), if_neg (by omega : ¬ ((0 : Int) % 2 = 1)), if_neg (by omega : ¬ ((0 : Int) % 2 = 1)), if_neg (by omega : ¬ ((2 * 2 ^ f - 1 : Int) % 2 = 0)), if_neg (by omega : ¬ ((2 * 2 ^ f - 1 : Int) % 2 = 0)), if_neg (by omega)]
    rw [show (0 : Int) / 2 = 0 by rfl, show (2 * 2 ^ f - 1 : Int) / 2 = 2 ^ f - 1 by omega, cov_all B f (l + 1)]
    rw [show l + 1 + f = l + (f + 1) by omega]
    rfl
theorem cov_self (f l : Nat) (i : Int) : covL f l i i = [(l, i)] := by
  cases f with
  | zero => rfl
  | succ f => unfold covL; rw [if_pos rfl]
end Go.Proofs.Ytpnbgoahjoabkaa

/- pieces.Cover, walked. -/
namespace Go.Proofs.Ytpnbgoahjoabkaa
set_option linter.unusedVariables false
open Go.RowKit
def CloPost (w W : World) (b6 : Nat) (pre suf : List (Nat × Int)) (e : Ending) (w' : World) : Prop :=
  e = .returned (.tuple #[]) ∧ ∃ v', w'.heap[b6]? = some (.cells #[v'] 100 (0, 0)) ∧ w'.ownsRow w.heap.size 77 2 v' (pre ++ suf.reverse).length (pcV (pre ++ suf.reverse)) ∧ Ext w w'
/-- What the row at b8 was is turned round. -/
theorem CovW.rev {w W w1 : World} {b6 b8 : Nat} {v6 v8 : Value} {pre suf : List (Nat × Int)} (h : CovW w W b6 b8 v6 v8 pre suf)
    (h1 : w1.ownsRow w.heap.size 77 2 v8 suf.length (pcV suf.reverse)) (hm : Mod (fun k => v8.ownBlock = some k) W w1) : CovW w w1 b6 b8 v6 v8 pre suf.reverse := by
  have k6 := (hm.block b6 (lt_of h.x6) (fun e => own_notB h.o8 h.x6 (by decide) e)).trans h.x6
  have k8 := (hm.block b8 (lt_of h.x8) (fun e => own_notB h.o8 h.x8 (by decide) e)).trans h.x8
  refine ⟨k6, k8, own_keepB h.o6 (fun k hk => hm.block k (own_lt h.o6 hk) (fun e => h.dj k hk e)), by rw [List.length_reverse]; exact h1, h.dj, h.g6, h.g8, h.ne, ?_⟩
  exact ⟨hm.os.trans h.ext.os, hm.tape.trans h.ext.tape, hm.output.trans h.ext.output, Nat.le_trans h.ext.size hm.size, fun k hk => (hm.block k (Nat.lt_of_lt_of_le hk h.ext.size) (fun e => by have := own_blk h.o8 e; omega)).trans (h.ext.block k hk)⟩
set_option maxRecDepth 20000 in
set_option maxHeartbeats 2000000 in
theorem CoverD_c (w W : World) (b6 b8 : Nat) (v6 v8 : Value) (pre suf : List (Nat × Int)) (u : FrameMode) (h : CovW w W b6 b8 v6 v8 pre suf) (hp : pre.length ≤ 100000) (hs : suf.length ≤ 100000) :
    CallsD Try.prog 167 #[.pointer (some ⟨b8, 0, none⟩), .pointer (some ⟨b6, 0, none⟩)] u W fun e u' w' => u' = u ∧ CloPost w W b6 pre suf e w' := by
  obtain ⟨i0, z0, hi, hz0, hz1, hz2, hzs⟩ := info_pc
  have c8 := (cell_of h.x8 0).trans rfl
  have l8 := lt_of h.x8
  have HH := Lib.hid h
  clear h
  go_enter_d Try.func167, Try.ntmps167
  go_wp2_with fail
  refine Calls.mono (Reverse_c suf v8 w.heap.size W HH.out.o8 (by omega)) ?_
  rintro e w1 ⟨rfl, ho, hm⟩
  have h1 := HH.out.rev ho hm
  clear c8 l8 ho hm
  have c6 := (cell_of h1.x6 0).trans rfl
  have c8 := (cell_of h1.x8 0).trans rfl
  have l6 := lt_of h1.x6
  have l8 := lt_of h1.x8
  have f6 := frozen_of h1.x6 0
  have H1 := Lib.hid h1
  clear h1
  go_wp2_with (at_builtin; refine wpList_apppz _ suf.reverse pre v6 w.heap.size 77 H1.out.o6 100 rfl _ _ rfl i0 z0 hi hz0 hz1 hz2 hzs Try.underlying100 rfl v8 rfl w.heap.size H1.out.o8 (by rw [List.length_reverse]; omega) H1.out.ext.size ?_)
  intro v' w2 hown hext hcells
  have k6 := hcells _ _ _ H1.out.x6 (by decide)
  have hE := hext w H1.out.ext (Nat.le_refl _)
  have HK := Lib.hid k6
  have c62 := (cell_of k6 0).trans rfl
  have l62 := lt_of k6
  have f62 := frozen_of k6 0
  obtain ⟨pv, cv, rfl⟩ := own_sl hown
  clear hext hcells k6
  go_wp2
  go_end0
  have hlen : (pre ++ suf.reverse).length = pre.length + suf.length := by simp
  refine ⟨rfl, _, by rw [setCell_same HK.out]; rfl, ?_, hE.setR (p := ⟨b6, 0, none⟩) H1.out.g6 _⟩
  rw [hlen]
  exact own_keepB hown (fun k hk => setCell_other _ _ (fun e => own_notB hown HK.out (by decide) (e ▸ hk)))
def CoverPost (w : World) (B : Nat) (lo hi : Int) (e : Ending) (w' : World) : Prop :=
  ((hi < lo ∨ 2 ^ B ≤ hi) ∧ e = .returned (.tuple #[.slice none 0 0, .bool false]) ∧ Ext w w') ∨
  ((lo ≤ hi ∧ hi < 2 ^ B) ∧ ∃ v, e = .returned (.tuple #[v, .bool true]) ∧ w'.ownsRow w.heap.size 77 2 v (covL B 0 lo hi).length (pcV (covL B 0 lo hi)) ∧ Ext w w')
theorem cov_step {B l : Nat} {a b : Int} (hl : l < B) (hne : a ≠ b) : covL (B - l) l a b = (if a % 2 = 1 then [(l, a)] else []) ++
    ((if (if b % 2 = 0 then b - 1 else b) < (if a % 2 = 1 then a + 1 else a) then [] else covL (B - (l + 1)) (l + 1) ((if a % 2 = 1 then a + 1 else a) / 2) ((if b % 2 = 0 then b - 1 else b) / 2)) ++ (if b % 2 = 0 then [(l, b)] else [])) := by
  rw [show B - l = (B - (l + 1)) + 1 by omega]
  conv => lhs; unfold covL
  rw [if_neg hne]
theorem rev_one (c : Prop) [Decidable c] (p : Nat × Int) : (if c then [p] else []).reverse = if c then [p] else [] := by split <;> rfl
set_option maxRecDepth 20000 in
set_option maxHeartbeats 4000000 in
theorem Cover_c (B : Nat) (hB1 : 1 ≤ B) (hB2 : B ≤ 59) (lo hi : Int) (hlo : U64 lo) (hhi : U64 hi) (w : World) :
    Calls Try.prog 125 #[.int .i64 B, .int .u64 lo, .int .u64 hi] w (CoverPost w B lo hi) := by
  have hmf : ∀ (fn : Fn) (first cap : Array Value) (w : World), (Instr.makeFunc fn first cap).run Try.prog w = .ok (.func fn first cap) w := fun _ _ _ _ => rfl
  obtain ⟨hlo0, hlo1⟩ := hlo
  obtain ⟨hhi0, hhi1⟩ := hhi
  have hpw := pow_bd B hB2
  by_cases h1 : hi < lo
  · go_enter_defers Try.func125, Try.ntmps125
    go_wp2
    exact ⟨.tuple #[.slice none 0 0, .bool false], by simp [results, Try.results125, go_sem], .inl ⟨.inl h1, rfl, Ext.alloc' _ _⟩⟩
  · by_cases h2 : 2 ^ B ≤ hi
    · go_enter_defers Try.func125, Try.ntmps125
      go_wp2
      exact ⟨.tuple #[.slice none 0 0, .bool false], by simp [results, Try.results125, go_sem], .inl ⟨.inr h2, rfl, Ext.alloc' _ _⟩⟩
    · have hcv : CovW w ((w.alloc (.cells #[.slice none 0 0] 100)).alloc (.cells #[.slice none 0 0] 100)) w.heap.size (w.heap.size + 1) (.slice none 0 0) (.slice none 0 0) [] [] :=
        ⟨by rw [heap_old _ _ (by rw [size_alloc]; omega)]; exact heap_at _ _ rfl, heap_at _ _ (size_alloc _ _).symm, ⟨rfl, .inl ⟨rfl, rfl⟩⟩, ⟨rfl, .inl ⟨rfl, rfl⟩⟩, (fun i hi => by simp [Value.ownBlock] at hi), Nat.le_refl _, by omega, by omega, (Ext.alloc' _ _).allocR _⟩
      have HCV := Lib.hid hcv
      have HF := Lib.hid (show (lo ≤ hi ∧ hi < 2 ^ B) from ⟨by omega, by omega⟩)
      obtain ⟨i0, z0, hi0, hz0, hz1, hz2, hzs⟩ := info_pc
      have door : ∀ (W : World) (v6 v8 : Value) (pre suf : List (Nat × Int)) (tm : Array Value), CovW w W w.heap.size (w.heap.size + 1) v6 v8 pre suf → pre.length ≤ 100 → suf.length ≤ 100 → covL B 0 lo hi = pre ++ suf.reverse → tm[6]? = some (.pointer (some ⟨w.heap.size, 0, none⟩)) → tm[7]? = some (.bool true) →
          bodyPostD Try.prog Try.f125 (CoverPost w B lo hi) .ret { tmps := tm, defers := [{ target := .fn (.func 167) #[.pointer (some ⟨w.heap.size + 1, 0, none⟩), .pointer (some ⟨w.heap.size, 0, none⟩)], args := #[] }] } W := by
        intro W v6 v8 pre suf tm h hp hs hcv t6 t7
        refine leaves_cons (f := 167) (args := #[.pointer (some ⟨w.heap.size + 1, 0, none⟩), .pointer (some ⟨w.heap.size, 0, none⟩)]) (by simp) (by simp [go_sem]) ?_
        refine (CoverD_c w W _ _ v6 v8 pre suf .returning h (by omega) (by omega)).mono ?_
        rintro e u' w'' ⟨rfl, rfl, v', hk, ho, hE⟩
        have hc := (cell_of hk 0).trans rfl
        exact ⟨.tuple #[v', .bool true], by simp [results, Try.results125, go_sem, t6, t7, hc], .inr ⟨HF.out, v', rfl, by rw [hcv]; exact ho, hE⟩⟩
      have HD := Lib.hid door
      clear door hcv
      go_enter_defers Try.func125, Try.ntmps125
      go_wp2_with fail
      go_loopw [1, 2, 9] (fun s1 s2 s9 wr => ∃ (a b : Int) (l : Nat) (pre suf : List (Nat × Int)) (v6 v8 : Value), s1 = .int .u64 a ∧ s2 = .int .u64 b ∧ s9 = .int .i64 l ∧ l ≤ B ∧ 0 ≤ a ∧ a ≤ b ∧ b < 2 ^ (B - l) ∧ pre.length ≤ l ∧ suf.length ≤ l ∧
        covL B 0 lo hi = pre ++ (covL (B - l) l a b ++ suf.reverse) ∧ CovW w wr w.heap.size (w.heap.size + 1) v6 v8 pre suf) (fun _ _ s9 _ => B - (intOf s9).toNat)
      case atStart => exact ⟨lo, hi, 0, [], [], _, _, rfl, rfl, rfl, Nat.zero_le _, hlo0, by omega, by rw [Nat.sub_zero]; omega, Nat.le_refl _, Nat.le_refl _, by simp, HCV.out⟩
      case round =>
        obtain ⟨a, b, l, pre, suf, v6, v8, rfl, rfl, rfl, hl, ha0, hab, hbb, hpl, hsl, hcov, hW⟩ := hrel
        have hpw2 := pow_bd (B - l) (by omega)
        have HC := Lib.hid hcov
        have c6 := (cell_of hW.x6 0).trans rfl
        have c8 := (cell_of hW.x8 0).trans rfl
        have l6 := lt_of hW.x6
        have l8 := lt_of hW.x8
        have f6 := frozen_of hW.x6 0
        have f8 := frozen_of hW.x8 0
        have hsz := hW.ext.size
        have HW := Lib.hid hW
        clear hcov hW
        by_cases he : a = b
        · subst he
          go_wp2_with (at_builtin; refine wpList_appp _ (l, a) pre v6 w.heap.size 77 77 HW.out.o6 100 rfl _ _ rfl i0 z0 hi0 hz0 hz1 hz2 hzs Try.underlying100 rfl rfl (by omega) HW.out.ext.size ?_)
          intro v' w' hw1 hw2 hw3
          have hW1 := HW.out.app hw1 hw2 hw3
          have hk0 := HW.out.app0 hw2
          obtain ⟨pv, cv, rfl⟩ := own_sl hw1
          have W1 := Lib.hid hW1
          have j6 := (cell_of hk0 0).trans rfl
          have j6l := lt_of hk0
          have j6f := frozen_of hk0 0
          have k6 := (cell_of hW1.x6 0).trans rfl
          have k6l := lt_of hW1.x6
          have k6f := frozen_of hW1.x6 0
          clear hw1 hw2 hw3 hW1 hk0
          go_wp2
          refine HD.out _ _ _ _ _ _ W1.out.set ?_ ?_ ?_ rfl rfl
          · rw [List.length_append, List.length_singleton]; omega
          · omega
          · rw [HC.out, cov_self, List.append_assoc]
        · have hl2 : l < B := by
            rcases Nat.lt_or_ge l B with h | h
            · exact h
            · rw [show B - l = 0 by omega] at hbb
              have : b < 1 := hbb
              omega
          have ha1 := and_1 a ha0 (by omega)
          have hb1 := and_1 b (by omega) (by omega)
          have hstep := cov_step hl2 he
          have h3 : (if a % 2 = 1 then a + 1 else a) % 2 = 0 ∧ a ≤ (if a % 2 = 1 then a + 1 else a) ∧ (if a % 2 = 1 then a + 1 else a) ≤ b := by split <;> omega
          have h4 : (if b % 2 = 0 then b - 1 else b) % 2 = 1 ∧ (if b % 2 = 0 then b - 1 else b) ≤ b ∧ a ≤ (if b % 2 = 0 then b - 1 else b) := by split <;> omega
          have h5 : (if a % 2 = 1 then a + 1 else a) ≤ (if b % 2 = 0 then b - 1 else b) + 1 := by split <;> split <;> omega
          have h6 : (if a % 2 = 1 then [(l, a)] else []).length ≤ 1 ∧ (if b % 2 = 0 then [(l, b)] else []).length ≤ 1 := by constructor <;> split <;> simp
          have h7 := rev_one (b % 2 = 0) (l, b)
          obtain ⟨a2, ha2⟩ : ∃ a2, (if a % 2 = 1 then a + 1 else a) = a2 := ⟨_, rfl⟩
          obtain ⟨b2, hb2⟩ : ∃ b2, (if b % 2 = 0 then b - 1 else b) = b2 := ⟨_, rfl⟩
          obtain ⟨L, hL⟩ : ∃ L, (if a % 2 = 1 then [(l, a)] else []) = L := ⟨_, rfl⟩
          obtain ⟨R, hR⟩ : ∃ R, (if b % 2 = 0 then [(l, b)] else []) = R := ⟨_, rfl⟩
          rw [ha2] at h3 h5
          rw [hb2] at h4 h5
          rw [hL, hR] at h6
          rw [hR] at h7
          rw [ha2, hb2, hL, hR] at hstep
          obtain ⟨h31, h32, h33⟩ := h3
          obtain ⟨h41, h42, h43⟩ := h4
          have HS := Lib.hid hstep
          have H6 := Lib.hid h6
          have H7 := Lib.hid h7
          have HA := Lib.hid ha2
          have HBB := Lib.hid hb2
          have HL := Lib.hid hL
          have HR := Lib.hid hR
          clear hstep h6 h7 ha2 hb2 hL hR
          go_upto_if 42 with (fail)
          go_cut [1] from 30 to 69 (fun s1 wx => ∃ v6' : Value, s1 = .int .u64 a2 ∧ CovW w wx w.heap.size (w.heap.size + 1) v6' v8 (pre ++ L) suf)
          case first =>
            have hA2 := HA.out
            have hL2 := HL.out
            by_cases ho : a % 2 = 1
            · rw [if_pos ho] at hA2 hL2
              subst hA2 hL2
              go_wp2_with (at_builtin; refine wpList_appp _ (l, a) pre v6 w.heap.size 77 77 HW.out.o6 100 rfl _ _ rfl i0 z0 hi0 hz0 hz1 hz2 hzs Try.underlying100 rfl rfl (by omega) HW.out.ext.size ?_)
              intro v' w' hw1 hw2 hw3
              have hW1 := HW.out.app hw1 hw2 hw3
              have hk0 := HW.out.app0 hw2
              obtain ⟨pv, cv, rfl⟩ := own_sl hw1
              have W1 := Lib.hid hW1
              have j6 := (cell_of hk0 0).trans rfl
              have j6l := lt_of hk0
              have j6f := frozen_of hk0 0
              clear hw1 hw2 hw3 hW1 hk0
              go_wp2
              go_meet
              exact ⟨_, rfl, W1.out⟩
            · rw [if_neg ho] at hA2 hL2
              subst hA2 hL2
              have ho2 : (a % 2 == 1) = false := by simp; omega
              go_wp2_with fail
              go_meet
              exact ⟨v6, rfl, by rw [List.append_nil]; exact HW.out⟩
          case rest =>
            obtain ⟨v6', rfl, hW2⟩ := hcut
            clear HW c6 c8 l6 l8 f6 f8 ha1
            have c8 := (cell_of hW2.x8 0).trans rfl
            have l8 := lt_of hW2.x8
            have f8 := frozen_of hW2.x8 0
            have HW2 := Lib.hid hW2
            clear hW2
            go_upto_if 53 with (fail)
            go_cut [2] from 30 to 69 (fun s2 wx => ∃ v8' : Value, s2 = .int .u64 b2 ∧ CovW w wx w.heap.size (w.heap.size + 1) v6' v8' (pre ++ L) (suf ++ R))
            case first =>
              have hB2 := HBB.out
              have hR2 := HR.out
              by_cases ho : b % 2 = 0
              · rw [if_pos ho] at hB2 hR2
                subst hB2 hR2
                go_wp2_with (at_builtin; refine wpList_appp _ (l, b) suf v8 w.heap.size 77 77 HW2.out.o8 100 rfl _ _ rfl i0 z0 hi0 hz0 hz1 hz2 hzs Try.underlying100 rfl rfl (by omega) HW2.out.ext.size ?_)
                intro v' w' hw1 hw2 hw3
                have hW1 := HW2.out.symm.app hw1 hw2 hw3
                have hk0 := HW2.out.symm.app0 hw2
                obtain ⟨pv, cv, rfl⟩ := own_sl hw1
                have W1 := Lib.hid hW1
                have j8 := (cell_of hk0 0).trans rfl
                have j8l := lt_of hk0
                have j8f := frozen_of hk0 0
                clear hw1 hw2 hw3 hW1 hk0
                go_wp2
                go_meet
                exact ⟨_, rfl, W1.out.symm⟩
              · rw [if_neg ho] at hB2 hR2
                subst hB2 hR2
                have ho2 : (b % 2 == 0) = false := by simp; omega
                go_wp2_with fail
                go_meet
                exact ⟨v8, rfl, by rw [List.append_nil]; exact HW2.out⟩
            case rest =>
              obtain ⟨v8', rfl, hW3⟩ := hcut
              clear HW2 c8 l8 f8 hb1
              have c6 := (cell_of hW3.x6 0).trans rfl
              have l6 := lt_of hW3.x6
              have f6 := frozen_of hW3.x6 0
              have HW3 := Lib.hid hW3
              clear hW3
              by_cases hlt : b2 < a2
              · obtain ⟨p6, n6, q6, hv6⟩ : ∃ p n c, v6' = .slice p n c := by obtain ⟨p, c, h⟩ := own_sl HW3.out.o6; exact ⟨p, _, c, h⟩
                subst hv6
                go_wp2_with fail
                refine HD.out _ _ _ _ _ _ HW3.out.set ?_ ?_ ?_ rfl rfl
                · rw [List.length_append]; have := H6.out.1; omega
                · rw [List.length_append]; have := H6.out.2; omega
                · rw [HC.out, HS.out, if_pos hlt, List.reverse_append, H7.out, List.nil_append, List.append_assoc, List.append_assoc]
              · go_wp2_with fail
                go_roundw
                case rel =>
                  refine ⟨a2 / 2, b2 / 2, l + 1, pre ++ L, suf ++ R, v6', v8', by go_num, by go_num, by go_num, by omega, by omega, by omega, ?_, ?_, ?_, ?_, HW3.out⟩
                  · have e : (2 : Int) ^ (B - l) = 2 * 2 ^ (B - (l + 1)) := by rw [show B - l = B - (l + 1) + 1 by omega]; exact pw_succ _
                    omega
                  · rw [List.length_append]; have := H6.out.1; omega
                  · rw [List.length_append]; have := H6.out.2; omega
                  · rw [HC.out, HS.out, if_neg hlt, List.reverse_append, H7.out]; simp only [List.append_assoc]
                case measure => simp [intOf]; omega
end Go.Proofs.Ytpnbgoahjoabkaa
