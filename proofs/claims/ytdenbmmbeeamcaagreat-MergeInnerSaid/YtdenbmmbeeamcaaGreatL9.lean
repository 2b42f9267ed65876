/- Part. No condition. -/
import Derived.Test.YtdenbmmbeeamcaaGreatL7
import Derived.Test.YtdenbmmbeeamcaaGreatL8
import Derived.Test.YtdenbmmbeeamcaaGreatL5
import Derived.Test.YtdenbmmbeeamcaaGreatL3
import Derived.Test.YtdenbmmbeeamcaaGreatL6
import Derived.ProofKit
import Derived.OpenShut
import Derived.ChangeOld
import Derived.Below
import Derived.SizedLaws
import Derived.Deep.Slices
import Derived.Deep.Fields

/- level.Inner. -/
namespace Go.Proofs.YtdenbmmbeeamcaaGreat
set_option linter.unusedVariables false
open Go.RowKit
/-- What the product of two levels is. -/
def lvInn (C : Cfg) (lv : Int) (l m : List Int) : Option Int := bif isX C lv then dotF l m (kN C lv) else innF l m (wN C) (rN C)
@[go_sem] theorem fld_mode (b r c m s : Int) (w : World) : (Instr.field 24 (.agg #[.int .i64 b, .int .i64 r, .int .i64 c, .int .i64 m, .int .u64 s]) 3).run Tryz.prog w = .ok (.int .i64 m) w := by kernel_rfl
set_option maxRecDepth 20000 in
set_option maxHeartbeats 8000000 in
theorem LInnerX_c (s b c s2 b2 c2 : Nat) (C : Cfg) (lv : Int) (N : Nat) (l m : List Int) (w : World) (h : EAt w s b c C lv N l) (h2 : EAt w s2 b2 c2 C lv N m) (hm : C.mode = 1) :
    Calls Tryz.prog 60 #[.iface 187 (.pointer (some ⟨s, 0, none⟩)), .iface 187 (.pointer (some ⟨s2, 0, none⟩))] w fun e w' => e = .returned (innV (dotF l m N)) ∧ Ext w w' := by
  have H := Lib.hid h
  have H2 := Lib.hid h2
  have hm' : (C.mode != 1) = false := by simp [hm]
  have hln := h.len
  have hln2 := h2.len
  have hN := h.g.w2
  have HI := Lib.hid h.fit
  have HI2 := Lib.hid h2.fit
  have HL := Lib.hid hln
  have HL2 := Lib.hid hln2
  clear h h2 hm hln hln2
  go_enter Tryz.func60, Tryz.ntmps60
  go_wp2_with fail
  refine (sk_ix _ _ _ _).mono ?_
  rintro e w1 ⟨rfl, rfl⟩
  go_wp2_with fail
  refine (arr_xx _ _ _).mono ?_
  rintro e w1 ⟨rfl, rfl⟩
  go_upto_region 5 with (fail)
  have hz0 := heap_at w (.cells #[.int .i64 0, .int .u64 0] 95) rfl
  have hE0 : Ext w (w.alloc (.cells #[.int .i64 0, .int .u64 0] 95)) := Ext.alloc' _ _
  generalize w.alloc (.cells #[.int .i64 0, .int .u64 0] 95) = w0 at *
  have HZ0 := Lib.hid hz0
  clear hz0
  go_cut [34] (fun s34 wx => s34 = .bool false ∧ Ext w0 wx)
  case first =>
    go_wp2_with (first | (go_at_call 136; refine (EConfig_c s b c C lv N l _ (H.out.ext (by (repeat' (first | exact Ext.refl _ | assumption | apply Ext.allocR | apply Ext.drewR | apply Ext.drewNR | (refine Ext.trans' ?_ (by assumption))))))).mono ?_; rintro e w1 ⟨rfl, hb1⟩) | (go_at_call 136; refine (EConfig_c s2 b2 c2 C lv N m _ (H2.out.ext (by (repeat' (first | exact Ext.refl _ | assumption | apply Ext.allocR | apply Ext.drewR | apply Ext.drewNR | (refine Ext.trans' ?_ (by assumption))))))).mono ?_; rintro e w2 ⟨rfl, hb2⟩) | (go_at_call 137; refine (ELevel_c s b c C lv N l _ (H.out.ext (by (repeat' (first | exact Ext.refl _ | assumption | apply Ext.allocR | apply Ext.drewR | apply Ext.drewNR | (refine Ext.trans' ?_ (by assumption))))))).mono ?_; rintro e w3 ⟨rfl, rfl⟩) | (go_at_call 137; refine (ELevel_c s2 b2 c2 C lv N m _ (H2.out.ext (by (repeat' (first | exact Ext.refl _ | assumption | apply Ext.allocR | apply Ext.drewR | apply Ext.drewNR | (refine Ext.trans' ?_ (by assumption))))))).mono ?_; rintro e w4 ⟨rfl, rfl⟩))
    go_meet
    exact ⟨by first | rfl | simp, by (repeat' (first | exact Ext.refl _ | assumption | apply Ext.allocR | apply Ext.drewR | apply Ext.drewNR | (refine Ext.trans' ?_ (by assumption))))⟩
  case rest =>
    obtain ⟨rfl, hEc⟩ := hcut
    go_wp2_with fail
    refine Calls.mono (EConfig_c s b c C lv N l _ (H.out.ext ?hx)) ?_
    case hx => (repeat' (first | exact Ext.refl _ | assumption | apply Ext.allocR | apply Ext.drewR | apply Ext.drewNR | (refine Ext.trans' ?_ (by assumption))))
    rintro e w1 ⟨rfl, hb1⟩
    have hE1 : Ext w0 w1 := by (repeat' (first | exact Ext.refl _ | assumption | apply Ext.allocR | apply Ext.drewR | apply Ext.drewNR | (refine Ext.trans' ?_ (by assumption))))
    clear hb1 hEc
    go_wp2_with fail
    refine Calls.mono (ECells_c s b c C lv N l _ (H.out.ext ?hx)) ?_
    case hx => (repeat' (first | exact Ext.refl _ | assumption | apply Ext.allocR | apply Ext.drewR | apply Ext.drewNR | (refine Ext.trans' ?_ (by assumption))))
    rintro e w2 ⟨v1, rfl, ho1, _, hx2⟩
    have hE2 : Ext w0 w2 := by (repeat' (first | exact Ext.refl _ | assumption | apply Ext.allocR | apply Ext.drewR | apply Ext.drewNR | (refine Ext.trans' ?_ (by assumption))))
    have hi1 := IntsAt.of_row ho1
    obtain ⟨p1, q1, rfl⟩ := own_sl ho1
    clear hx2 hE1 ho1
    go_wp2_with fail
    refine Calls.mono (ECells_c s2 b2 c2 C lv N m _ (H2.out.ext ?hx)) ?_
    case hx => (repeat' (first | exact Ext.refl _ | assumption | apply Ext.allocR | apply Ext.drewR | apply Ext.drewNR | (refine Ext.trans' ?_ (by assumption))))
    rintro e w3 ⟨v2, rfl, ho2, _, hx3⟩
    have hE3 : Ext w0 w3 := by (repeat' (first | exact Ext.refl _ | assumption | apply Ext.allocR | apply Ext.drewR | apply Ext.drewNR | (refine Ext.trans' ?_ (by assumption))))
    have hi2 := IntsAt.of_row ho2
    have hi1' := hi1.ext hx3
    obtain ⟨p2, q2, rfl⟩ := own_sl ho2
    have HI1 := Lib.hid hi1'
    have HI2' := Lib.hid hi2
    clear hx3 hE2 ho2 hi1 hi2 hi1'
    go_wp2_with fail
    refine Calls.mono (Dot_c l m _ _ _ HI.out HI2.out (by rw [HL.out, HL2.out]) (by rw [HL.out]; omega) HI1.out HI2'.out) ?_
    rintro e w4 ⟨rfl, hx4⟩
    have hE4 : Ext w0 w4 := by (repeat' (first | exact Ext.refl _ | assumption | apply Ext.allocR | apply Ext.drewR | apply Ext.drewNR | (refine Ext.trans' ?_ (by assumption))))
    obtain ⟨p0, p1', f0, f1, hl⟩ := zbox HZ0.out hE4
    rw [HL.out]
    clear hx4 hE3
    cases hd : dotF l m N with
    | none =>
      have HD := Lib.hid hd
      clear hd
      rw [show dotV none = .tuple #[.agg #[.int .i64 0, .int .u64 0], .bool false] from rfl]
      go_wp2_with fail
      refine bodyPost_ret (v := .tuple #[.agg #[.int .i64 0, .int .u64 0], .int .i64 4]) (by simp [results, Tryz.results60, go_sem, *]) rfl ⟨by rw [HD.out]; rfl, ?_⟩
      exact (((hE0.trans' hE4).setR (p := ⟨w.heap.size, 0, none⟩) (Nat.le_refl _) _).setR (p := ⟨w.heap.size, 1, none⟩) (Nat.le_refl _) _).allocR _
    | some z =>
      have HD := Lib.hid hd
      clear hd
      rw [show dotV (some z) = .tuple #[.agg #[.int .i64 (hi z), .int .u64 (lo z)], .bool true] from rfl]
      go_wp2_with fail
      refine bodyPost_ret (v := .tuple #[.agg #[.int .i64 (hi z), .int .u64 (lo z)], .int .i64 0]) (by simp [results, Tryz.results60, go_sem, *]) rfl ⟨by rw [HD.out]; rfl, ?_⟩
      exact (((hE0.trans' hE4).setR (p := ⟨w.heap.size, 0, none⟩) (Nat.le_refl _) _).setR (p := ⟨w.heap.size, 1, none⟩) (Nat.le_refl _) _).allocR _
set_option maxRecDepth 20000 in
set_option maxHeartbeats 8000000 in
/-- Of another mode than Linear there is none. -/
theorem LInnerX_mode (s b c s2 b2 c2 : Nat) (C : Cfg) (lv : Int) (N : Nat) (l m : List Int) (w : World) (h : EAt w s b c C lv N l) (h2 : EAt w s2 b2 c2 C lv N m) (hm : C.mode ≠ 1) :
    Calls Tryz.prog 60 #[.iface 187 (.pointer (some ⟨s, 0, none⟩)), .iface 187 (.pointer (some ⟨s2, 0, none⟩))] w fun e w' => e = .returned (.tuple #[.agg #[.int .i64 0, .int .u64 0], .int .i64 3]) ∧ Ext w w' := by
  have H := Lib.hid h
  have H2 := Lib.hid h2
  have hm' : (C.mode != 1) = true := by simpa using hm
  clear h h2 hm
  go_enter Tryz.func60, Tryz.ntmps60
  go_wp2_with fail
  refine (sk_ix _ _ _ _).mono ?_
  rintro e w1 ⟨rfl, rfl⟩
  go_wp2_with fail
  refine (arr_xx _ _ _).mono ?_
  rintro e w1 ⟨rfl, rfl⟩
  go_upto_region 5 with (fail)
  have hz0 := heap_at w (.cells #[.int .i64 0, .int .u64 0] 95) rfl
  have hE0 : Ext w (w.alloc (.cells #[.int .i64 0, .int .u64 0] 95)) := Ext.alloc' _ _
  generalize w.alloc (.cells #[.int .i64 0, .int .u64 0] 95) = w0 at *
  have HZ0 := Lib.hid hz0
  clear hz0
  go_cut [34] (fun s34 wx => s34 = .bool false ∧ Ext w0 wx)
  case first =>
    go_wp2_with (first | (go_at_call 136; refine (EConfig_c s b c C lv N l _ (H.out.ext (by (repeat' (first | exact Ext.refl _ | assumption | apply Ext.allocR | apply Ext.drewR | apply Ext.drewNR | (refine Ext.trans' ?_ (by assumption))))))).mono ?_; rintro e w1 ⟨rfl, hb1⟩) | (go_at_call 136; refine (EConfig_c s2 b2 c2 C lv N m _ (H2.out.ext (by (repeat' (first | exact Ext.refl _ | assumption | apply Ext.allocR | apply Ext.drewR | apply Ext.drewNR | (refine Ext.trans' ?_ (by assumption))))))).mono ?_; rintro e w2 ⟨rfl, hb2⟩) | (go_at_call 137; refine (ELevel_c s b c C lv N l _ (H.out.ext (by (repeat' (first | exact Ext.refl _ | assumption | apply Ext.allocR | apply Ext.drewR | apply Ext.drewNR | (refine Ext.trans' ?_ (by assumption))))))).mono ?_; rintro e w3 ⟨rfl, rfl⟩) | (go_at_call 137; refine (ELevel_c s2 b2 c2 C lv N m _ (H2.out.ext (by (repeat' (first | exact Ext.refl _ | assumption | apply Ext.allocR | apply Ext.drewR | apply Ext.drewNR | (refine Ext.trans' ?_ (by assumption))))))).mono ?_; rintro e w4 ⟨rfl, rfl⟩))
    go_meet
    exact ⟨by first | rfl | simp, by (repeat' (first | exact Ext.refl _ | assumption | apply Ext.allocR | apply Ext.drewR | apply Ext.drewNR | (refine Ext.trans' ?_ (by assumption))))⟩
  case rest =>
    obtain ⟨rfl, hEc⟩ := hcut
    go_wp2_with fail
    refine Calls.mono (EConfig_c s b c C lv N l _ (H.out.ext ?hx)) ?_
    case hx => (repeat' (first | exact Ext.refl _ | assumption | apply Ext.allocR | apply Ext.drewR | apply Ext.drewNR | (refine Ext.trans' ?_ (by assumption))))
    rintro e w1 ⟨rfl, hb1⟩
    have hE1 : Ext w0 w1 := by (repeat' (first | exact Ext.refl _ | assumption | apply Ext.allocR | apply Ext.drewR | apply Ext.drewNR | (refine Ext.trans' ?_ (by assumption))))
    obtain ⟨p0, p1, f0, f1, hl⟩ := zbox HZ0.out hE1
    clear hb1 hEc
    go_wp2_with fail
    refine bodyPost_ret (v := .tuple #[.agg #[.int .i64 0, .int .u64 0], .int .i64 3]) (by simp [results, Tryz.results60, go_sem, *]) rfl ⟨rfl, ?_⟩
    exact ((hE0.trans' hE1).setR (p := ⟨w.heap.size, 0, none⟩) (Nat.le_refl _) _).setR (p := ⟨w.heap.size, 1, none⟩) (Nat.le_refl _) _
set_option maxRecDepth 20000 in
set_option maxHeartbeats 8000000 in
/-- Unlike arrays have none. -/
theorem LInnerX_no (s b c s2 b2 c2 : Nat) (C C2 : Cfg) (lv lv2 : Int) (N N2 : Nat) (l m : List Int) (w : World) (h : EAt w s b c C lv N l) (h2 : EAt w s2 b2 c2 C2 lv2 N2 m) (hp : PartsAt C lv C2 lv2) :
    Calls Tryz.prog 60 #[.iface 187 (.pointer (some ⟨s, 0, none⟩)), .iface 187 (.pointer (some ⟨s2, 0, none⟩))] w fun e w' => e = .returned (.tuple #[.agg #[.int .i64 0, .int .u64 0], .int .i64 5]) ∧ Ext w w' := by
  have H := Lib.hid h
  have H2 := Lib.hid h2
  clear h h2
  go_enter Tryz.func60, Tryz.ntmps60
  go_wp2_with fail
  refine (sk_ix _ _ _ _).mono ?_
  rintro e w1 ⟨rfl, rfl⟩
  go_wp2_with fail
  refine (arr_xx _ _ _).mono ?_
  rintro e w1 ⟨rfl, rfl⟩
  go_upto_region 5 with (fail)
  have hz0 := heap_at w (.cells #[.int .i64 0, .int .u64 0] 95) rfl
  have hE0 : Ext w (w.alloc (.cells #[.int .i64 0, .int .u64 0] 95)) := Ext.alloc' _ _
  generalize w.alloc (.cells #[.int .i64 0, .int .u64 0] 95) = w0 at *
  have HZ0 := Lib.hid hz0
  clear hz0
  go_cut [34] (fun s34 wx => s34 = .bool true ∧ Ext w0 wx)
  case first =>
    cases hp
    all_goals
      go_wp2_with (first | (go_at_call 136; refine (EConfig_c s b c C lv N l _ (H.out.ext (by (repeat' (first | exact Ext.refl _ | assumption | apply Ext.allocR | apply Ext.drewR | apply Ext.drewNR | (refine Ext.trans' ?_ (by assumption))))))).mono ?_; rintro e w1 ⟨rfl, hb1⟩) | (go_at_call 136; refine (EConfig_c s2 b2 c2 C2 lv2 N2 m _ (H2.out.ext (by (repeat' (first | exact Ext.refl _ | assumption | apply Ext.allocR | apply Ext.drewR | apply Ext.drewNR | (refine Ext.trans' ?_ (by assumption))))))).mono ?_; rintro e w2 ⟨rfl, hb2⟩) | (go_at_call 137; refine (ELevel_c s b c C lv N l _ (H.out.ext (by (repeat' (first | exact Ext.refl _ | assumption | apply Ext.allocR | apply Ext.drewR | apply Ext.drewNR | (refine Ext.trans' ?_ (by assumption))))))).mono ?_; rintro e w3 ⟨rfl, rfl⟩) | (go_at_call 137; refine (ELevel_c s2 b2 c2 C2 lv2 N2 m _ (H2.out.ext (by (repeat' (first | exact Ext.refl _ | assumption | apply Ext.allocR | apply Ext.drewR | apply Ext.drewNR | (refine Ext.trans' ?_ (by assumption))))))).mono ?_; rintro e w4 ⟨rfl, rfl⟩))
      go_meet
      exact ⟨by first | rfl | simp [bne, *], by (repeat' (first | exact Ext.refl _ | assumption | apply Ext.allocR | apply Ext.drewR | apply Ext.drewNR | (refine Ext.trans' ?_ (by assumption))))⟩
  case rest =>
    obtain ⟨rfl, hEc⟩ := hcut
    obtain ⟨p0, p1, f0, f1, hl⟩ := zbox HZ0.out hEc
    go_wp2_with fail
    refine bodyPost_ret (v := .tuple #[.agg #[.int .i64 0, .int .u64 0], .int .i64 5]) (by simp [results, Tryz.results60, go_sem, *]) rfl ⟨rfl, ?_⟩
    exact ((hE0.trans' hEc).setR (p := ⟨w.heap.size, 0, none⟩) (Nat.le_refl _) _).setR (p := ⟨w.heap.size, 1, none⟩) (Nat.le_refl _) _
set_option maxRecDepth 20000 in
set_option maxHeartbeats 8000000 in
/-- Two sketches: inner.Inner's answer. -/
theorem LInnerS_c (s s2 : Nat) (w : World) (h w0 : Int) (k : Int)
    (hI : ∀ W', Ext w W' → Calls Tryz.prog 135 #[.pointer (some ⟨s, 0, none⟩), .pointer (some ⟨s2, 0, none⟩)] W' fun e w' => e = .returned (.tuple #[.agg #[.int .i64 h, .int .u64 w0], .int .i64 k]) ∧ Ext W' w') :
    Calls Tryz.prog 60 #[.iface 182 (.pointer (some ⟨s, 0, none⟩)), .iface 182 (.pointer (some ⟨s2, 0, none⟩))] w fun e w' => e = .returned (.tuple #[.agg #[.int .i64 h, .int .u64 w0], .int .i64 k]) ∧ Ext w w' := by
  have HI := Lib.hid hI
  clear hI
  go_enter Tryz.func60, Tryz.ntmps60
  go_wp2_with fail
  refine (sk_ss _ _ _).mono ?_
  rintro e w1 ⟨rfl, rfl⟩
  go_wp2_with fail
  have hz0 := heap_at w (.cells #[.int .i64 0, .int .u64 0] 95) rfl
  have hE0 : Ext w (w.alloc (.cells #[.int .i64 0, .int .u64 0] 95)) := Ext.alloc' _ _
  generalize w.alloc (.cells #[.int .i64 0, .int .u64 0] 95) = wz at *
  refine (HI.out _ hE0).mono ?_
  rintro e w2 ⟨rfl, hx2⟩
  obtain ⟨p0, p1, f0, f1, hl⟩ := zbox hz0 hx2
  go_wp2_with fail
  refine bodyPost_ret (v := .tuple #[.agg #[.int .i64 h, .int .u64 w0], .int .i64 k]) (by simp [results, Tryz.results60, go_sem, *]) rfl ⟨rfl, ?_⟩
  exact ((hE0.trans' hx2).setR (p := ⟨w.heap.size, 0, none⟩) (Nat.le_refl _) _).setR (p := ⟨w.heap.size, 1, none⟩) (Nat.le_refl _) _
set_option maxRecDepth 20000 in
set_option maxHeartbeats 4000000 in
theorem LInner_xs (s s2 : Nat) (w : World) :
    Calls Tryz.prog 60 #[.iface 187 (.pointer (some ⟨s, 0, none⟩)), .iface 182 (.pointer (some ⟨s2, 0, none⟩))] w fun e w' => e = .returned (.tuple #[.agg #[.int .i64 0, .int .u64 0], .int .i64 5]) ∧ Ext w w' := by
  go_enter Tryz.func60, Tryz.ntmps60
  go_wp2_with fail
  refine (sk_xs _ _ _).mono ?_
  rintro e w1 ⟨rfl, rfl⟩
  go_wp2_with fail
  refine (arr_xs _ _ _).mono ?_
  rintro e w1 ⟨rfl, rfl⟩
  have hz0 := heap_at w (.cells #[.int .i64 0, .int .u64 0] 95) rfl
  have hE0 : Ext w (w.alloc (.cells #[.int .i64 0, .int .u64 0] 95)) := Ext.alloc' _ _
  generalize w.alloc (.cells #[.int .i64 0, .int .u64 0] 95) = wz at *
  obtain ⟨p0, p1, f0, f1, hl⟩ := zbox hz0 (Ext.refl wz)
  go_wp2_with fail
  refine bodyPost_ret (v := .tuple #[.agg #[.int .i64 0, .int .u64 0], .int .i64 5]) (by simp [results, Tryz.results60, go_sem, *]) rfl ⟨rfl, ?_⟩
  exact (hE0.setR (p := ⟨w.heap.size, 0, none⟩) (Nat.le_refl _) _).setR (p := ⟨w.heap.size, 1, none⟩) (Nat.le_refl _) _
set_option maxRecDepth 20000 in
set_option maxHeartbeats 4000000 in
theorem LInner_sx (s s2 : Nat) (w : World) :
    Calls Tryz.prog 60 #[.iface 182 (.pointer (some ⟨s, 0, none⟩)), .iface 187 (.pointer (some ⟨s2, 0, none⟩))] w fun e w' => e = .returned (.tuple #[.agg #[.int .i64 0, .int .u64 0], .int .i64 5]) ∧ Ext w w' := by
  go_enter Tryz.func60, Tryz.ntmps60
  go_wp2_with fail
  refine (sk_ix _ _ _ _).mono ?_
  rintro e w1 ⟨rfl, rfl⟩
  go_wp2_with fail
  refine (arr_sx _ _ _).mono ?_
  rintro e w1 ⟨rfl, rfl⟩
  have hz0 := heap_at w (.cells #[.int .i64 0, .int .u64 0] 95) rfl
  have hE0 : Ext w (w.alloc (.cells #[.int .i64 0, .int .u64 0] 95)) := Ext.alloc' _ _
  generalize w.alloc (.cells #[.int .i64 0, .int .u64 0] 95) = wz at *
  obtain ⟨p0, p1, f0, f1, hl⟩ := zbox hz0 (Ext.refl wz)
  go_wp2_with fail
  refine bodyPost_ret (v := .tuple #[.agg #[.int .i64 0, .int .u64 0], .int .i64 5]) (by simp [results, Tryz.results60, go_sem, *]) rfl ⟨rfl, ?_⟩
  exact (hE0.setR (p := ⟨w.heap.size, 0, none⟩) (Nat.le_refl _) _).setR (p := ⟨w.heap.size, 1, none⟩) (Nat.le_refl _) _
/-- The product of two levels of one config, Linear. -/
theorem LInner_c (C : Cfg) (lv : Int) (L L2 : Lev) (l m : List Int) (w : World) (h : LvAt w L C lv l) (h2 : LvAt w L2 C lv m) (hm : C.mode = 1) :
    Calls Tryz.prog 60 #[lvV C lv L, lvV C lv L2] w fun e w' => e = .returned (innV (lvInn C lv l m)) ∧ Ext w w' := by
  unfold lvInn
  cases hx : isX C lv with
  | true =>
    rw [lvV_x hx, lvV_x hx]
    exact LInnerX_c _ _ _ _ _ _ C lv _ l m w (h.x hx) (h2.x hx) hm
  | false =>
    rw [lvV_s hx, lvV_s hx]
    have := fun W' (he : Ext w W') => Inner_c _ _ _ _ _ _ C lv _ _ l m W' ((h.sk hx).ext he) ((h2.sk hx).ext he) hm
    show Calls _ _ _ _ fun e w' => e = .returned (innV (innF l m (wN C) (rN C))) ∧ _
    cases hi : innF l m (wN C) (rN C) with
    | none => rw [hi] at this; exact LInnerS_c _ _ w 0 0 4 this
    | some z => rw [hi] at this; exact LInnerS_c _ _ w _ _ 0 this
theorem LInner_mode (C : Cfg) (lv : Int) (L L2 : Lev) (l m : List Int) (w : World) (h : LvAt w L C lv l) (h2 : LvAt w L2 C lv m) (hm : C.mode ≠ 1) :
    Calls Tryz.prog 60 #[lvV C lv L, lvV C lv L2] w fun e w' => e = .returned (.tuple #[.agg #[.int .i64 0, .int .u64 0], .int .i64 3]) ∧ Ext w w' := by
  cases hx : isX C lv with
  | true =>
    rw [lvV_x hx, lvV_x hx]
    exact LInnerX_mode _ _ _ _ _ _ C lv _ l m w (h.x hx) (h2.x hx) hm
  | false =>
    rw [lvV_s hx, lvV_s hx]
    exact LInnerS_c _ _ w 0 0 3 fun W' he => Inner_mode _ _ _ _ _ _ C lv _ _ l m W' ((h.sk hx).ext he) ((h2.sk hx).ext he) hm
theorem LInner_no (C C2 : Cfg) (lv lv2 : Int) (L L2 : Lev) (l m : List Int) (w : World) (h : LvAt w L C lv l) (h2 : LvAt w L2 C2 lv2 m) (hp : PartsAt C lv C2 lv2) :
    Calls Tryz.prog 60 #[lvV C lv L, lvV C2 lv2 L2] w fun e w' => e = .returned (.tuple #[.agg #[.int .i64 0, .int .u64 0], .int .i64 5]) ∧ Ext w w' := by
  cases hx : isX C lv with
  | true =>
    cases hy : isX C2 lv2 with
    | true =>
      rw [lvV_x hx, lvV_x hy]
      exact LInnerX_no _ _ _ _ _ _ C C2 lv lv2 _ _ l m w (h.x hx) (h2.x hy) hp
    | false =>
      rw [lvV_x hx, lvV_s hy]
      exact LInner_xs _ _ w
  | false =>
    cases hy : isX C2 lv2 with
    | true =>
      rw [lvV_s hx, lvV_x hy]
      exact LInner_sx _ _ w
    | false =>
      rw [lvV_s hx, lvV_s hy]
      exact LInnerS_c _ _ w 0 0 5 fun W' he => Inner_unlike _ _ _ _ _ _ C C2 lv lv2 _ _ _ _ l m W' ((h.sk hx).ext he) ((h2.sk hy).ext he) hp
end Go.Proofs.YtdenbmmbeeamcaaGreat

/- Package merge: Merge, Subtract, Inner of two stacks. -/
namespace Go.Proofs.YtdenbmmbeeamcaaGreat
set_option linter.unusedVariables false
open Go.RowKit
set_option maxRecDepth 20000 in
set_option maxHeartbeats 4000000 in
theorem KMerge_c (s g s2 g2 : Nat) (C : Cfg) (B : Nat) (L L2 : Nat → Lev) (ls ls2 : Nat → List Int) (w : World) (h : KAt w s g C B L ls) (h2 : KAt w s2 g2 C B L2 ls2) (hmd : "Merge" = "Subtract" → C.mode ≠ 2) :
    Calls Tryz.prog 79 #[.pointer (some ⟨s, 0, none⟩), .pointer (some ⟨s2, 0, none⟩)] w (KJoinPost w s g C B L (fun n => plusL (ls n) (ls2 n))) := by
  have HA := Lib.hid (KAllMerge_c s g s2 g2 C B L L2 ls ls2 w h h2 hmd)
  clear h h2 hmd
  go_enter Tryz.func79, Tryz.ntmps79
  go_wp2_with fail
  refine Calls.mono HA.out ?_
  rintro e w1 (⟨h1, rfl, h2, h3⟩ | ⟨h1, rfl, h2⟩)
  · go_wp2
    go_ret
    exact .inl ⟨h1, rfl, h2, h3⟩
  · go_wp2
    go_ret
    exact .inr ⟨h1, rfl, h2⟩
set_option maxRecDepth 20000 in
set_option maxHeartbeats 4000000 in
theorem KMerge_no (s g s2 g2 : Nat) (C C2 : Cfg) (B B2 : Nat) (L L2 : Nat → Lev) (ls ls2 : Nat → List Int) (w : World) (h : KAt w s g C B L ls) (h2 : KAt w s2 g2 C2 B2 L2 ls2) (hne : C ≠ C2) :
    Calls Tryz.prog 79 #[.pointer (some ⟨s, 0, none⟩), .pointer (some ⟨s2, 0, none⟩)] w fun e w' => e = .returned (.int .i64 5) ∧ Ext w w' := by
  have HA := Lib.hid (fun W (hW : Ext w W) => KAlike_no s g s2 g2 C C2 B B2 L L2 ls ls2 W (h.ext hW) (h2.ext hW) hne)
  clear h h2 hne
  have hall : Calls Tryz.prog 143 #[.agg #[.func (.func 56) #[] #[]], .pointer (some ⟨s, 0, none⟩), .pointer (some ⟨s2, 0, none⟩)] w fun e w' => e = .returned (.int .i64 5) ∧ Ext w w' := by
    go_enter Tryz.func143, Tryz.ntmps143
    go_wp2
    go_step3
    go_wp2_with fail
    refine Calls.mono (HA.out _ (Ext.alloc' _ _)) ?_
    rintro e w1 ⟨rfl, hx1⟩
    go_wp2
    try rw [Exit.noGoto_ret]
    go_ret
    exact ⟨rfl, (Ext.alloc' _ _).trans' hx1⟩
  have HALL := Lib.hid hall
  clear hall HA
  go_enter Tryz.func79, Tryz.ntmps79
  go_wp2_with fail
  refine Calls.mono HALL.out ?_
  rintro e w1 ⟨rfl, hx1⟩
  go_wp2
  go_ret
  exact ⟨rfl, hx1⟩
set_option maxRecDepth 20000 in
set_option maxHeartbeats 4000000 in
theorem KMerge_nil1 (p : Option Addr) (w : World) :
    Calls Tryz.prog 79 #[.pointer none, .pointer p] w fun e w' => e = .returned (.int .i64 5) ∧ Ext w w' := by
  have hall : Calls Tryz.prog 143 #[.agg #[.func (.func 56) #[] #[]], .pointer none, .pointer p] w fun e w' => e = .returned (.int .i64 5) ∧ Ext w w' := by
    go_enter Tryz.func143, Tryz.ntmps143
    go_wp2
    go_step3
    go_wp2_with fail
    refine Calls.mono (KAlike_nil1 p _) ?_
    rintro e w1 ⟨rfl, rfl⟩
    go_wp2
    try rw [Exit.noGoto_ret]
    go_ret
    exact ⟨rfl, Ext.alloc' _ _⟩
  have HALL := Lib.hid hall
  clear hall
  go_enter Tryz.func79, Tryz.ntmps79
  go_wp2_with fail
  refine Calls.mono HALL.out ?_
  rintro e w1 ⟨rfl, hx1⟩
  go_wp2
  go_ret
  exact ⟨rfl, hx1⟩
set_option maxRecDepth 20000 in
set_option maxHeartbeats 4000000 in
theorem KMerge_nil2 (s : Nat) (w : World) :
    Calls Tryz.prog 79 #[.pointer (some ⟨s, 0, none⟩), .pointer none] w fun e w' => e = .returned (.int .i64 5) ∧ Ext w w' := by
  have hall : Calls Tryz.prog 143 #[.agg #[.func (.func 56) #[] #[]], .pointer (some ⟨s, 0, none⟩), .pointer none] w fun e w' => e = .returned (.int .i64 5) ∧ Ext w w' := by
    go_enter Tryz.func143, Tryz.ntmps143
    go_wp2
    go_step3
    go_wp2_with fail
    refine Calls.mono (KAlike_nil2 s _) ?_
    rintro e w1 ⟨rfl, rfl⟩
    go_wp2
    try rw [Exit.noGoto_ret]
    go_ret
    exact ⟨rfl, Ext.alloc' _ _⟩
  have HALL := Lib.hid hall
  clear hall
  go_enter Tryz.func79, Tryz.ntmps79
  go_wp2_with fail
  refine Calls.mono HALL.out ?_
  rintro e w1 ⟨rfl, hx1⟩
  go_wp2
  go_ret
  exact ⟨rfl, hx1⟩
set_option maxRecDepth 20000 in
set_option maxHeartbeats 4000000 in
theorem KSubtract_c (s g s2 g2 : Nat) (C : Cfg) (B : Nat) (L L2 : Nat → Lev) (ls ls2 : Nat → List Int) (w : World) (h : KAt w s g C B L ls) (h2 : KAt w s2 g2 C B L2 ls2) (hmd : "Subtract" = "Subtract" → C.mode ≠ 2) :
    Calls Tryz.prog 81 #[.pointer (some ⟨s, 0, none⟩), .pointer (some ⟨s2, 0, none⟩)] w (KJoinPost w s g C B L (fun n => minusL (ls n) (ls2 n))) := by
  have HA := Lib.hid (KAllSubtract_c s g s2 g2 C B L L2 ls ls2 w h h2 hmd)
  clear h h2 hmd
  go_enter Tryz.func81, Tryz.ntmps81
  go_wp2_with fail
  refine Calls.mono HA.out ?_
  rintro e w1 (⟨h1, rfl, h2, h3⟩ | ⟨h1, rfl, h2⟩)
  · go_wp2
    go_ret
    exact .inl ⟨h1, rfl, h2, h3⟩
  · go_wp2
    go_ret
    exact .inr ⟨h1, rfl, h2⟩
set_option maxRecDepth 20000 in
set_option maxHeartbeats 4000000 in
theorem KSubtract_no (s g s2 g2 : Nat) (C C2 : Cfg) (B B2 : Nat) (L L2 : Nat → Lev) (ls ls2 : Nat → List Int) (w : World) (h : KAt w s g C B L ls) (h2 : KAt w s2 g2 C2 B2 L2 ls2) (hne : C ≠ C2) :
    Calls Tryz.prog 81 #[.pointer (some ⟨s, 0, none⟩), .pointer (some ⟨s2, 0, none⟩)] w fun e w' => e = .returned (.int .i64 5) ∧ Ext w w' := by
  have HA := Lib.hid (fun W (hW : Ext w W) => KAlike_no s g s2 g2 C C2 B B2 L L2 ls ls2 W (h.ext hW) (h2.ext hW) hne)
  clear h h2 hne
  have hall : Calls Tryz.prog 143 #[.agg #[.func (.func 58) #[] #[]], .pointer (some ⟨s, 0, none⟩), .pointer (some ⟨s2, 0, none⟩)] w fun e w' => e = .returned (.int .i64 5) ∧ Ext w w' := by
    go_enter Tryz.func143, Tryz.ntmps143
    go_wp2
    go_step3
    go_wp2_with fail
    refine Calls.mono (HA.out _ (Ext.alloc' _ _)) ?_
    rintro e w1 ⟨rfl, hx1⟩
    go_wp2
    try rw [Exit.noGoto_ret]
    go_ret
    exact ⟨rfl, (Ext.alloc' _ _).trans' hx1⟩
  have HALL := Lib.hid hall
  clear hall HA
  go_enter Tryz.func81, Tryz.ntmps81
  go_wp2_with fail
  refine Calls.mono HALL.out ?_
  rintro e w1 ⟨rfl, hx1⟩
  go_wp2
  go_ret
  exact ⟨rfl, hx1⟩
set_option maxRecDepth 20000 in
set_option maxHeartbeats 4000000 in
theorem KSubtract_nil1 (p : Option Addr) (w : World) :
    Calls Tryz.prog 81 #[.pointer none, .pointer p] w fun e w' => e = .returned (.int .i64 5) ∧ Ext w w' := by
  have hall : Calls Tryz.prog 143 #[.agg #[.func (.func 58) #[] #[]], .pointer none, .pointer p] w fun e w' => e = .returned (.int .i64 5) ∧ Ext w w' := by
    go_enter Tryz.func143, Tryz.ntmps143
    go_wp2
    go_step3
    go_wp2_with fail
    refine Calls.mono (KAlike_nil1 p _) ?_
    rintro e w1 ⟨rfl, rfl⟩
    go_wp2
    try rw [Exit.noGoto_ret]
    go_ret
    exact ⟨rfl, Ext.alloc' _ _⟩
  have HALL := Lib.hid hall
  clear hall
  go_enter Tryz.func81, Tryz.ntmps81
  go_wp2_with fail
  refine Calls.mono HALL.out ?_
  rintro e w1 ⟨rfl, hx1⟩
  go_wp2
  go_ret
  exact ⟨rfl, hx1⟩
set_option maxRecDepth 20000 in
set_option maxHeartbeats 4000000 in
theorem KSubtract_nil2 (s : Nat) (w : World) :
    Calls Tryz.prog 81 #[.pointer (some ⟨s, 0, none⟩), .pointer none] w fun e w' => e = .returned (.int .i64 5) ∧ Ext w w' := by
  have hall : Calls Tryz.prog 143 #[.agg #[.func (.func 58) #[] #[]], .pointer (some ⟨s, 0, none⟩), .pointer none] w fun e w' => e = .returned (.int .i64 5) ∧ Ext w w' := by
    go_enter Tryz.func143, Tryz.ntmps143
    go_wp2
    go_step3
    go_wp2_with fail
    refine Calls.mono (KAlike_nil2 s _) ?_
    rintro e w1 ⟨rfl, rfl⟩
    go_wp2
    try rw [Exit.noGoto_ret]
    go_ret
    exact ⟨rfl, Ext.alloc' _ _⟩
  have HALL := Lib.hid hall
  clear hall
  go_enter Tryz.func81, Tryz.ntmps81
  go_wp2_with fail
  refine Calls.mono HALL.out ?_
  rintro e w1 ⟨rfl, hx1⟩
  go_wp2
  go_ret
  exact ⟨rfl, hx1⟩
set_option maxRecDepth 20000 in
set_option maxHeartbeats 8000000 in
/-- In the mode Conservative nothing is taken away. -/
theorem KSubtract_mode (s g s2 g2 : Nat) (C : Cfg) (B : Nat) (L L2 : Nat → Lev) (ls ls2 : Nat → List Int) (w : World) (h : KAt w s g C B L ls) (h2 : KAt w s2 g2 C B L2 ls2) (hm : C.mode = 2) :
    Calls Tryz.prog 81 #[.pointer (some ⟨s, 0, none⟩), .pointer (some ⟨s2, 0, none⟩)] w fun e w' => e = .returned (.int .i64 3) ∧ Ext w w' := by
  have HH := Lib.hid h
  have HH2 := Lib.hid h2
  have hok := h.ok
  have hb1 := hok.b1
  have hb2 := hok.b2
  have HM := Lib.hid hm
  clear h h2 hm
  have hall : Calls Tryz.prog 143 #[.agg #[.func (.func 58) #[] #[]], .pointer (some ⟨s, 0, none⟩), .pointer (some ⟨s2, 0, none⟩)] w fun e w' => e = .returned (.int .i64 3) ∧ Ext w w' := by
    go_enter Tryz.func143, Tryz.ntmps143
    go_wp2
    go_step3
    go_wp2_with fail
    refine Calls.mono (KAlike_yes s g s2 g2 C B L L2 ls ls2 _ (HH.out.ext (Ext.alloc' _ _)) (HH2.out.ext (Ext.alloc' _ _))) ?_
    rintro e w1 ⟨rfl, hx1⟩
    have hj1 := hx1.keep (heap_at w (.cells #[.func (.func 58) #[] #[]] 215) rfl)
    have hE1 : Ext w w1 := (Ext.alloc' _ _).trans' hx1
    clear hx1
    go_wp2
    go_step3
    go_wp2_with fail
    refine Calls.mono (SKConfig_c s g C B L ls _ (HH.out.ext hE1)) ?_
    rintro e w2 ⟨rfl, hx2⟩
    have hj2 := hx2.keep hj1
    have hE2 : Ext w w2 := hE1.trans' hx2
    clear hj1 hx2 hE1
    have hfd : ∀ w, (Instr.field 24 (.agg #[.int .i64 C.bits, .int .i64 C.rows, .int .i64 C.width, .int .i64 C.mode, .int .u64 C.seed]) 0).run Tryz.prog w = .ok (.int .i64 C.bits) w := fun _ => by kernel_rfl
    have hlt' : (0 : Int) < C.bits + 1 := by omega
    go_wp2
    refine wp_loop_rounds 1 ?_
    rw [rounds_succ]
    go_wp2_with fail
    refine Calls.mono (KAt_c s g C B L ls _ (HH.out.ext hE2) 0 (Nat.zero_le _)) ?_
    rintro e w3 ⟨M, rfl, hL, m1, m2, m3, hx3⟩
    have hE3 := hE2.trans' hx3
    rw [lvV_eq]
    have HL := Lib.hid hL
    clear hL
    go_wp2_with fail
    refine Calls.mono (KAt_c s2 g2 C B L2 ls2 _ (HH2.out.ext hE3) 0 (Nat.zero_le _)) ?_
    rintro e w4 ⟨M2, rfl, hL2, n1, n2, n3, hx4⟩
    have hE4 := hE3.trans' hx4
    rw [lvV_eq]
    have HL4 := Lib.hid (HL.out.ext hx4)
    have HL2 := Lib.hid hL2
    have hj4 := (hx3.trans' hx4).keep hj2
    have c0 := (cell_of hj4 0).trans rfl
    have l0 := lt_of hj4
    clear hL2 HL
    have hcall : Calls Tryz.prog 58 #[.iface (lvT C (0 : Nat)) (.pointer (some ⟨M.s, 0, none⟩)), .iface (lvT C (0 : Nat)) (.pointer (some ⟨M2.s, 0, none⟩))] w4 (fun e w' => e = .returned (.int .i64 3) ∧ Ext w4 w') :=
      LSubtract_mode C (0 : Nat) M M2 _ _ w4 HL4.out HL2.out HM.out
    have HCALL := Lib.hid hcall
    clear hcall
    go_wp2_with fail
    refine Calls.mono HCALL.out ?_
    rintro e w5 ⟨rfl, hx5⟩
    go_wp2
    try rw [Exit.noGoto_ret]
    go_ret
    exact ⟨rfl, hE4.trans' hx5⟩
  have HALL := Lib.hid hall
  clear hall
  go_enter Tryz.func81, Tryz.ntmps81
  go_wp2_with fail
  refine Calls.mono HALL.out ?_
  rintro e w1 ⟨rfl, hx1⟩
  go_wp2
  go_ret
  exact ⟨rfl, hx1⟩
theorem wz2 {w w' : World} (h : Ext w w') {c : Array Value} {t : TypeId} (hb : w'.heap[w.heap.size]? = some (.cells c t (0, 0))) (u v : Value) : Ext w ((w'.setCell ⟨w.heap.size, 0, none⟩ u).setCell ⟨w.heap.size, 1, none⟩ v) :=
  (h.setR (p := ⟨w.heap.size, 0, none⟩) (Nat.le_refl _) u).setR (p := ⟨w.heap.size, 1, none⟩) (Nat.le_refl _) v
set_option maxRecDepth 20000 in
set_option maxHeartbeats 8000000 in
/-- The product of two stacks is that of their lowest levels. -/
theorem KInner_c (s g s2 g2 : Nat) (C : Cfg) (B : Nat) (L L2 : Nat → Lev) (ls ls2 : Nat → List Int) (w : World) (h : KAt w s g C B L ls) (h2 : KAt w s2 g2 C B L2 ls2) (H : Int) (l : Int) (k : Int)
    (hI : ∀ (M M2 : Lev) (W : World), LvAt W M C 0 (ls 0) → LvAt W M2 C 0 (ls2 0) → Calls Tryz.prog 60 #[lvV C 0 M, lvV C 0 M2] W fun e w' => e = .returned (.tuple #[.agg #[.int .i64 H, .int .u64 l], .int .i64 k]) ∧ Ext W w') :
    Calls Tryz.prog 82 #[.pointer (some ⟨s, 0, none⟩), .pointer (some ⟨s2, 0, none⟩)] w fun e w' => e = .returned (.tuple #[.agg #[.int .i64 H, .int .u64 l], .int .i64 k]) ∧ Ext w w' := by
  have HH := Lib.hid h
  have HH2 := Lib.hid h2
  have HI := Lib.hid hI
  clear h h2 hI
  go_enter Tryz.func82, Tryz.ntmps82
  go_wp2_with fail
  refine Calls.mono (KAlike_yes s g s2 g2 C B L L2 ls ls2 _ (HH.out.ext (Ext.alloc' _ _)) (HH2.out.ext (Ext.alloc' _ _))) ?_
  rintro e w1 ⟨rfl, hx1⟩
  have hb1 := hx1.keep (heap_at w (.cells #[.int .i64 0, .int .u64 0] 95) rfl)
  have hE1 : Ext w w1 := (Ext.alloc' _ _).trans' hx1
  clear hx1
  go_wp2_with fail
  refine Calls.mono (KAt_c s g C B L ls _ (HH.out.ext hE1) 0 (Nat.zero_le _)) ?_
  rintro e w3 ⟨M, rfl, hL, m1, m2, m3, hx3⟩
  have hE3 := hE1.trans' hx3
  rw [lvV_eq]
  have HL := Lib.hid hL
  clear hL
  go_wp2_with fail
  refine Calls.mono (KAt_c s2 g2 C B L2 ls2 _ (HH2.out.ext hE3) 0 (Nat.zero_le _)) ?_
  rintro e w4 ⟨M2, rfl, hL2, n1, n2, n3, hx4⟩
  have hE4 := hE3.trans' hx4
  rw [lvV_eq]
  have hcall := HI.out M M2 w4 (HL.out.ext hx4) hL2
  have hb4 := (hx3.trans' hx4).keep hb1
  rw [lvV_eq, lvV_eq] at hcall
  have HCALL := Lib.hid hcall
  clear hcall hL2 HL hb1 hx3 hx4
  go_wp2_with fail
  refine Calls.mono HCALL.out ?_
  rintro e w5 ⟨rfl, hx5⟩
  have hb5 := hx5.keep hb4
  have hE5 := hE4.trans' hx5
  have p0 := (cell_of hb5 0).trans rfl
  have p1 := (cell_of hb5 1).trans rfl
  have f0 := frozen_of hb5 0
  have f1 := frozen_of hb5 1
  have l5 := lt_of hb5
  have HB5 := Lib.hid hb5
  clear hb4 hb5
  go_wp2_with fail
  refine bodyPost_ret (v := .tuple #[.agg #[.int .i64 H, .int .u64 l], .int .i64 k]) (by simp [results, Tryz.results82, go_sem, *]) rfl ⟨rfl, wz2 hE5 HB5.out _ _⟩
set_option maxRecDepth 20000 in
set_option maxHeartbeats 8000000 in
theorem KInner_no (s g s2 g2 : Nat) (C C2 : Cfg) (B B2 : Nat) (L L2 : Nat → Lev) (ls ls2 : Nat → List Int) (w : World) (h : KAt w s g C B L ls) (h2 : KAt w s2 g2 C2 B2 L2 ls2) (hne : C ≠ C2) :
    Calls Tryz.prog 82 #[.pointer (some ⟨s, 0, none⟩), .pointer (some ⟨s2, 0, none⟩)] w fun e w' => e = .returned (.tuple #[.agg #[.int .i64 0, .int .u64 0], .int .i64 5]) ∧ Ext w w' := by
  have HA := Lib.hid (fun W (hW : Ext w W) => KAlike_no s g s2 g2 C C2 B B2 L L2 ls ls2 W (h.ext hW) (h2.ext hW) hne)
  clear h h2 hne
  go_enter Tryz.func82, Tryz.ntmps82
  go_wp2_with fail
  refine Calls.mono (HA.out _ (Ext.alloc' _ _)) ?_
  rintro e w1 ⟨rfl, hx1⟩
  have hb5 := hx1.keep (heap_at w (.cells #[.int .i64 0, .int .u64 0] 95) rfl)
  have hE1 : Ext w w1 := (Ext.alloc' _ _).trans' hx1
  have p0 := (cell_of hb5 0).trans rfl
  have p1 := (cell_of hb5 1).trans rfl
  have f0 := frozen_of hb5 0
  have f1 := frozen_of hb5 1
  have l5 := lt_of hb5
  have HB5 := Lib.hid hb5
  clear hb5 hx1
  go_wp2_with fail
  refine bodyPost_ret (v := .tuple #[.agg #[.int .i64 0, .int .u64 0], .int .i64 5]) (by simp [results, Tryz.results82, go_sem, *]) rfl ⟨rfl, wz2 hE1 HB5.out _ _⟩
set_option maxRecDepth 20000 in
set_option maxHeartbeats 8000000 in
theorem KInner_nil1 (p : Option Addr) (w : World) :
    Calls Tryz.prog 82 #[.pointer none, .pointer p] w fun e w' => e = .returned (.tuple #[.agg #[.int .i64 0, .int .u64 0], .int .i64 5]) ∧ Ext w w' := by
  go_enter Tryz.func82, Tryz.ntmps82
  go_wp2_with fail
  refine Calls.mono (KAlike_nil1 p _) ?_
  rintro e w1 ⟨rfl, rfl⟩
  have hb5 := heap_at w (.cells #[.int .i64 0, .int .u64 0] 95) rfl
  have hE1 : Ext w (w.alloc (.cells #[.int .i64 0, .int .u64 0] 95)) := Ext.alloc' _ _
  generalize w.alloc (.cells #[.int .i64 0, .int .u64 0] 95) = w1 at *
  have p0 := (cell_of hb5 0).trans rfl
  have p1 := (cell_of hb5 1).trans rfl
  have f0 := frozen_of hb5 0
  have f1 := frozen_of hb5 1
  have l5 := lt_of hb5
  have HB5 := Lib.hid hb5
  clear hb5
  go_wp2_with fail
  refine bodyPost_ret (v := .tuple #[.agg #[.int .i64 0, .int .u64 0], .int .i64 5]) (by simp [results, Tryz.results82, go_sem, *]) rfl ⟨rfl, wz2 hE1 HB5.out _ _⟩
end Go.Proofs.YtdenbmmbeeamcaaGreat

/- gaugerlaw11.shown. -/
namespace Go.Proofs.YtdenbmmbeeamcaaGreat
set_option linter.unusedVariables false
open Go.RowKit

def D0 : Cfg := ⟨2, 2, 1, 1, 0⟩
theorem D0_ok : D0.Ok := by constructor <;> simp [D0, U64]
theorem D0_cols (k : Int) : cols D0 0 k = [0, 0] := by
  have h0 := col_bd D0 (by simp [D0]) 0 k (0 : Nat)
  have h1 := col_bd D0 (by simp [D0]) 0 k (1 : Nat)
  have e0 : col D0 0 k (0 : Nat) = 0 := by have : D0.width = 1 := rfl; omega
  have e1 : col D0 0 k (1 : Nat) = 0 := by have : D0.width = 1 := rfl; omega
  show (List.range 2).map _ = _
  rw [show List.range 2 = [0, 1] from rfl]
  simp only [List.map_cons, List.map_nil]
  rw [e0, e1]
theorem D0_keys : keys D0 0 = 4 := by simp [keys, D0]
theorem D0_e1 : errU D0 0 2 1 [0, 0] 1 5 = 0 := by unfold errU; rw [D0_cols, D0_keys]; rfl
theorem D0_u1 : updL D0 0 2 1 [0, 0] 1 5 = [5, 5] := by unfold updL; rw [D0_cols]; rfl
theorem D0_e2 : errU D0 0 2 1 [0, 0] 2 7 = 0 := by unfold errU; rw [D0_cols, D0_keys]; rfl
theorem D0_u2 : updL D0 0 2 1 [0, 0] 2 7 = [7, 7] := by unfold updL; rw [D0_cols]; rfl
theorem D0_in : innF [5, 5] [7, 7] 1 2 = some 35 := by decide
theorem D_m5 : dotF [1, 2] [3, -4] 2 = some (-5) := by decide
theorem V35 : innV (some 35) = .tuple #[.agg #[.int .i64 0, .int .u64 35], .int .i64 0] := rfl
theorem Vm5 : dotV (some (-5)) = .tuple #[.agg #[.int .i64 (-1), .int .u64 18446744073709551611], .bool true] := rfl
theorem Of35 (w : World) : Calls Tryz.prog 113 #[.int .i64 35] w fun e w' => e = .returned (.agg #[.int .i64 0, .int .u64 35]) ∧ Ext w w' := Of_c 35 (by unfold I64; omega) w
theorem Ofm5 (w : World) : Calls Tryz.prog 113 #[.int .i64 (-5)] w fun e w' => e = .returned (.agg #[.int .i64 (-1), .int .u64 18446744073709551611]) ∧ Ext w w' := Of_c (-5) (by unfold I64; omega) w
theorem wbox {w0 wx : World} {b : Nat} {x y : Value} (h : w0.heap[b]? = some (.cells #[x, y] 95 (0, 0))) (hE : Ext w0 wx) :
    wx.cell? ⟨b, 0, none⟩ = some x ∧ wx.cell? ⟨b, 1, none⟩ = some y ∧ b < wx.heap.size :=
  have h' := hE.keep h
  ⟨(cell_of h' 0).trans rfl, (cell_of h' 1).trans rfl, lt_of h'⟩
theorem updpost {w w' : World} {s b c : Nat} {C : Cfg} {lv : Int} {R W : Nat} {l : List Int} {key d : Int} {e : Ending} (h : UpdPost w s b c C lv R W l key d e w') (he : errU C lv R W l key d = 0) :
    e = .returned (.int .i64 0) ∧ SAt w' s b c C lv R W (updL C lv R W l key d) ∧ Mod (fun k => k = c) w w' := by
  obtain ⟨h1, h2⟩ := h
  obtain ⟨_, hS, hM⟩ := h2.resolve_right (fun h => h.1 he)
  rw [he] at h1
  exact ⟨h1, hS, hM⟩
end Go.Proofs.YtdenbmmbeeamcaaGreat

/- gaugerlaw20.alike, shown. -/
namespace Go.Proofs.YtdenbmmbeeamcaaGreat
set_option linter.unusedVariables false
open Go.RowKit
set_option maxRecDepth 20000 in
set_option maxHeartbeats 4000000 in
/-- Two stacks that have the same cells are alike. -/
theorem Alike20_c (s g s2 g2 : Nat) (C : Cfg) (B : Nat) (L L2 : Nat → Lev) (ls ls2 : Nat → List Int) (w : World) (h : KAt w s g C B L ls) (h2 : KAt w s2 g2 C B L2 ls2) (he : ∀ n, n ≤ B → ls n = ls2 n) :
    Calls Tryz.prog 90 #[.pointer (some ⟨s, 0, none⟩), .pointer (some ⟨s2, 0, none⟩), .int .i64 C.bits] w fun e w' => e = .returned (.bool true) ∧ Ext w w' := by
  have HH := Lib.hid h
  have HH2 := Lib.hid h2
  have hok := h.ok
  have HB := Lib.hid h.hB
  have hB59 : B ≤ 59 := by have := hok.b2; have := h.hB; omega
  have HE := Lib.hid he
  have hbits : C.bits = (B : Int) := h.hB
  rw [hbits]
  clear h h2 he hbits
  go_enter Tryz.func90, Tryz.ntmps90
  go_wp2
  go_loopw [7] (fun u7 wr => ∃ k : Nat, k ≤ B + 1 ∧ u7 = .int .i64 k ∧ Ext w wr) (fun u7 _ => B + 1 - (intOf u7).toNat)
  case atStart => exact ⟨0, Nat.zero_le _, rfl, Ext.refl _⟩
  case round =>
    obtain ⟨k, hk, rfl, hE⟩ := hrel
    by_cases hlt : k < B + 1
    · have hle : (k : Int) ≤ (B : Int) := by omega
      have hlen : (ls k).length = lvN C k := ((HH.out.lev k (by omega))).len
      have hpos := lvN_pos hok (Int.natCast_nonneg k)
      have h1000 : lvN C k ≤ 1000000 := by
        have h2 := hok.w2
        have h3 := hok.r2
        have h4 := hok.w1
        have h5 := hok.r1
        unfold lvN
        cases hx : isX C k with
        | true =>
          show kN C k ≤ _
          have := kN_eq hok (Int.natCast_nonneg k)
          unfold isX at hx
          have := of_decide_eq_true hx
          omega
        | false =>
          show rN C * wN C ≤ _
          have e1 := rN_eq hok
          have e2 := wN_eq hok
          have : rN C * wN C ≤ 8 * 128 := Nat.mul_le_mul (by omega) (by omega)
          omega
      have heq := HE.out k (by omega)
      have HLEN := Lib.hid hlen
      have HEQ := Lib.hid heq
      have HPOS := Lib.hid (And.intro hpos h1000)
      clear hlen heq hpos h1000
      go_wp2_with fail
      refine Calls.mono (KCells_c s g C B L ls _ (HH.out.ext hE) k (by omega)) ?_
      rintro e w1 ⟨v, rfl, ho, _, hx1⟩
      have hE1 := hE.trans' hx1
      obtain ⟨p1, c1, rfl⟩ := own_sl ho
      have hz : (((ls k).length : Int) == 0) = false := by have h1 := HPOS.out; have h2 := HLEN.out; rw [h2]; have h3 := h1.1; have : (lvN C k : Int) ≠ 0 := by omega
                                                           simpa using this
      clear ho hx1
      go_wp2_with fail
      refine Calls.mono (KCells_c s g C B L ls _ (HH.out.ext hE1) k (by omega)) ?_
      rintro e w2 ⟨v, rfl, ho, _, hx2⟩
      have hE2 := hE1.trans' hx2
      have HV := Lib.hid (IntsAt.of_row ho)
      obtain ⟨p2, c2, rfl⟩ := own_sl ho
      clear ho hx2
      go_wp2_with fail
      refine Calls.mono (KCells_c s2 g2 C B L2 ls2 _ (HH2.out.ext hE2) k (by omega)) ?_
      rintro e w3 ⟨v, rfl, ho, _, hx3⟩
      have hE3 := hE2.trans' hx3
      have HV2 := Lib.hid (IntsAt.of_row ho)
      have HV3 := Lib.hid (HV.out.ext hx3)
      obtain ⟨p3, c3, rfl⟩ := own_sl ho
      clear ho hx3
      go_wp2_with fail
      refine Calls.mono (Same_c _ _ (ls k) (ls2 k) _ HV3.out HV2.out (by rw [HLEN.out]; exact HPOS.out.2) (by rw [← HEQ.out, HLEN.out]; exact HPOS.out.2)) ?_
      rintro e w4 ⟨rfl, hx4⟩
      rw [decide_eq_true HEQ.out]
      go_wp2
      go_roundw
      case rel => exact ⟨k + 1, by omega, by go_num, hE3.trans' hx4⟩
      case measure => simp [intOf]; omega
    · obtain rfl : k = B + 1 := by omega
      go_wp2
      go_ret
      exact ⟨rfl, hE⟩
def K1 : Cfg := ⟨2, 1, 4, 1, 0⟩
theorem K1_ok : K1.Ok := by constructor <;> simp [K1, U64]
theorem K1_x (n : Nat) : isX K1 n = true := by
  have : keys K1 n ≤ 4 := by
    unfold keys
    have h : (2 : Nat) ^ ((2 : Int) - (n : Int)).toNat ≤ 2 ^ 2 := Nat.pow_le_pow_right (by decide) (by omega)
    show (2 : Int) ^ ((2 : Int) - (n : Int)).toNat ≤ 4
    exact_mod_cast h
  unfold isX
  exact decide_eq_true this
def K1z : Nat → List Int := fun n => zs (lvN K1 n)
def K1a : Nat → List Int := updK K1 K1z 1 5
def K1b : Nat → List Int := updK K1 K1z 1 2
def K1c : Nat → List Int := updK K1 K1b 3 4
theorem K1a_bnd (n : Nat) : Bnd 5 (K1a n) := updK_bnd (B' := 0) (T := 5) (zs_bnd _) (by decide) (by decide) (by decide)
theorem K1b_bnd (n : Nat) : Bnd 4 (K1b n) := updK_bnd (B' := 0) (T := 4) (zs_bnd _) (by decide) (by decide) (by decide)
theorem K1c_bnd (n : Nat) : Bnd 8 (K1c n) := updK_bnd (B' := 4) (T := 4) (K1b_bnd n) (by decide) (by decide) (by decide)
theorem K1_e1 : errK K1 2 K1z 1 5 = 0 := errK_ok K1_ok rfl (B' := 0) (T := 5) (fun n _ => zs_bnd _) (by decide) (by decide) (by decide) (by decide) (by decide) (by decide) (by decide)
theorem K1_e2 : errK K1 2 K1z 1 2 = 0 := errK_ok K1_ok rfl (B' := 0) (T := 4) (fun n _ => zs_bnd _) (by decide) (by decide) (by decide) (by decide) (by decide) (by decide) (by decide)
theorem K1_e3 : errK K1 2 K1b 3 4 = 0 := errK_ok K1_ok rfl (B' := 4) (T := 4) (fun n _ => K1b_bnd n) (by decide) (by decide) (by decide) (by decide) (by decide) (by decide) (by decide)
theorem K1a_0 : K1a 0 = [0, 5, 0, 0] := by
  unfold K1a updK
  rw [lvU_x (K1_x 0)]
  rfl
theorem K1c_0 : K1c 0 = [0, 2, 0, 4] := by
  unfold K1c K1b updK
  rw [lvU_x (K1_x 0), lvU_x (K1_x 0)]
  rfl
def K1s : Nat → List Int := fun n => plusL (K1a n) (K1c n)
theorem K1s_0 : K1s 0 = [0, 7, 0, 4] := by unfold K1s; rw [K1a_0, K1c_0]; rfl
theorem K1s_all : ∀ n, n ≤ 2 → allI (K1s n) := fun n _ => (plusL_bnd (K1a_bnd n) (K1c_bnd n) (by decide)).allI (by decide)
theorem K1_len (n : Nat) : (K1a n).length = (K1c n).length := by
  unfold K1a K1c K1b updK
  rw [lvU_len, lvU_len, lvU_len]
theorem K1_minus (n : Nat) : minusL (K1s n) (K1c n) = K1a n := minus_plus (K1_len n)
theorem K1a_all : ∀ n, n ≤ 2 → allI (K1a n) := fun n _ => (K1a_bnd n).allI (by decide)
theorem K1_in : lvInn K1 0 (K1a 0) (K1c 0) = some 10 := by
  unfold lvInn
  rw [show isX K1 0 = true from K1_x 0, K1a_0, K1c_0]
  decide
theorem V10 : innV (some 10) = .tuple #[.agg #[.int .i64 0, .int .u64 10], .int .i64 0] := rfl
theorem Of10 (w : World) : Calls Tryz.prog 113 #[.int .i64 10] w fun e w' => e = .returned (.agg #[.int .i64 0, .int .u64 10]) ∧ Ext w w' := Of_c 10 (by unfold I64; omega) w
theorem ints4 {w : World} {a b c d : Int} {t : TypeId} {n : Nat} {W : World} (h : W.heap[n]? = some (.cells #[.int .i64 a, .int .i64 b, .int .i64 c, .int .i64 d] t (0, 0))) : IntsAt W (.slice (some ⟨n, 0, none⟩) 4 4) [a, b, c, d] := by
  have h0 := (cell_of h 0).trans rfl
  have h1 := (cell_of h 1).trans rfl
  have h2 := (cell_of h 2).trans rfl
  have h3 := (cell_of h 3).trans rfl
  refine .inr ⟨n, 0, 4, rfl, lt_of h, fun k hk => ?_⟩
  match k, hk with
  | 0, _ => exact h0
  | 1, _ => exact h1
  | 2, _ => exact h2
  | 3, _ => exact h3
theorem kj_ok {w w' : World} {s g B : Nat} {C : Cfg} {L : Nat → Lev} {ms : Nat → List Int} {e : Ending} (h : KJoinPost w s g C B L ms e w') (ha : ∀ n, n ≤ B → allI (ms n)) : e = .returned (.int .i64 0) ∧ KAt w' s g C B L ms ∧ Mod (cellsOf B L) w w' := by
  rcases h with ⟨_, h1, h2, h3⟩ | ⟨hn, _⟩
  · exact ⟨h1, h2, h3⟩
  · exact absurd ha hn
set_option maxRecDepth 20000 in
set_option maxHeartbeats 8000000 in
theorem shown20_c (w : World) : Calls Tryz.prog 78 #[] w fun e w' => e = .returned (.bool true) ∧ Ext w w' := by
  go_enter Tryz.func78, Tryz.ntmps78
  go_wp2_with fail
  have hCb : CfgAt (w.alloc (.cells #[.int .i64 2, .int .i64 1, .int .i64 4, .int .i64 1, .int .u64 0] 24)) w.heap.size K1 := CfgAt.box K1 _ rfl
  have hE0 : Ext w (w.alloc (.cells #[.int .i64 2, .int .i64 1, .int .i64 4, .int .i64 1, .int .u64 0] 24)) := Ext.alloc' _ _
  generalize w.alloc (.cells #[.int .i64 2, .int .i64 1, .int .i64 4, .int .i64 1, .int .u64 0] 24) = w0 at *
  refine (KNew_c K1 K1_ok _).mono ?_
  rintro e w1 ⟨s, g, L, rfl, hK, hs, hg, hL, hx1⟩
  have hF : KFresh w0.heap.size 2 L := hL
  replace hK : KAt w1 s g K1 2 L K1z := hK
  have hC1 := hCb.ext hx1
  have d0 : w1.cell? ⟨w.heap.size, 0, none⟩ = some (.int .i64 2) := hC1.c0
  have d1 : w1.cell? ⟨w.heap.size, 1, none⟩ = some (.int .i64 1) := hC1.c1
  have d2 : w1.cell? ⟨w.heap.size, 2, none⟩ = some (.int .i64 4) := hC1.c2
  have d3 : w1.cell? ⟨w.heap.size, 3, none⟩ = some (.int .i64 1) := hC1.c3
  have d4 : w1.cell? ⟨w.heap.size, 4, none⟩ = some (.int .u64 0) := hC1.c4
  have dl := hC1.lt
  have hE1 := hE0.trans' hx1
  have hs0 := hE0.size
  have hs1 := hx1.size
  have HK := Lib.hid hK
  clear hx1 hC1 hCb hK hL
  go_wp2_with fail
  refine (KNew_c K1 K1_ok _).mono ?_
  rintro e w2 ⟨s2, g2, L2, rfl, hK2, hs2, hg2, hL2, hx2⟩
  have hF2 : KFresh w1.heap.size 2 L2 := hL2
  replace hK2 : KAt w2 s2 g2 K1 2 L2 K1z := hK2
  have hE2 := hE1.trans' hx2
  have hss2 := hx2.size
  have HF := Lib.hid hF
  have HF2 := Lib.hid hF2
  have hdj : ∀ n, n ≤ 2 → ¬ cellsOf 2 L2 (L n).c := fun n hn ⟨m, hm, he⟩ => by have := (HF2.out m hm).2.2; have := (HK.out.lev n hn).ltc; omega
  have hdj2 : ∀ n, n ≤ 2 → ¬ cellsOf 2 L (L2 n).c := fun n hn ⟨m, hm, he⟩ => by have := (HF2.out n hn).2.2; have := (HK.out.lev m hm).ltc; omega
  have HD := Lib.hid hdj
  have HD2 := Lib.hid hdj2
  have HS := Lib.hid (HK.out.ext hx2)
  have HS2 := Lib.hid hK2
  have hFF : ∀ i, cellsOf 2 L i → w.heap.size ≤ i := fun i ⟨n, hn, hi⟩ => by have := (HF.out n hn).2.2; omega
  have hFF2 : ∀ i, cellsOf 2 L2 i → w.heap.size ≤ i := fun i ⟨n, hn, hi⟩ => by have := (HF2.out n hn).2.2; omega
  have HFF := Lib.hid hFF
  have HFF2 := Lib.hid hFF2
  clear hx2 d0 d1 d2 d3 d4 dl hK2 hL2 hdj hdj2 hF hF2 hE0 hE1 hFF hFF2 HK
  go_wp2_with fail
  refine Calls.mono (KUpdate_c s g K1 2 L _ 1 5 _ HS.out (by unfold I64; omega) (by unfold U64; omega)) ?_
  rintro e w3 ⟨rfl, hK3, hM3⟩
  rw [K1_e1] at hK3 ⊢
  replace hK3 : KAt w3 s g K1 2 L K1a := hK3
  have HS3 := Lib.hid hK3
  have HT3 := Lib.hid (HS2.out.mod hM3 (fun i hi _ => HS.out.isc hi) (fun n hn => HD2.out n hn))
  have hE3 : Ext w w3 := Below.trans hE2 (hM3.below hE2.size HFF.out)
  clear hK3 hM3 HS HS2 hE2
  go_wp2_with fail
  refine Calls.mono (KUpdate_c s2 g2 K1 2 L2 _ 1 2 _ HT3.out (by unfold I64; omega) (by unfold U64; omega)) ?_
  rintro e w4 ⟨rfl, hK4, hM4⟩
  rw [K1_e2] at hK4 ⊢
  replace hK4 : KAt w4 s2 g2 K1 2 L2 K1b := hK4
  have HT4 := Lib.hid hK4
  have HS4 := Lib.hid (HS3.out.mod hM4 (fun i hi _ => HT3.out.isc hi) (fun n hn => HD.out n hn))
  have hE4 : Ext w w4 := Below.trans hE3 (hM4.below hE3.size HFF2.out)
  clear hK4 hM4 HS3 HT3 hE3
  go_wp2_with fail
  refine Calls.mono (KUpdate_c s2 g2 K1 2 L2 _ 3 4 _ HT4.out (by unfold I64; omega) (by unfold U64; omega)) ?_
  rintro e w5 ⟨rfl, hK5, hM5⟩
  rw [K1_e3] at hK5 ⊢
  replace hK5 : KAt w5 s2 g2 K1 2 L2 K1c := hK5
  have HT5 := Lib.hid hK5
  have HS5 := Lib.hid (HS4.out.mod hM5 (fun i hi _ => HT4.out.isc hi) (fun n hn => HD.out n hn))
  have hE5 : Ext w w5 := Below.trans hE4 (hM5.below hE4.size HFF2.out)
  clear hK5 hM5 HS4 HT4 hE4
  go_wp2_with fail
  refine Calls.mono (KInner_c s g s2 g2 K1 2 L L2 K1a K1c _ HS5.out HT5.out 0 10 0 (fun M M2 W h h2 => by have := LInner_c K1 0 M M2 _ _ W h h2 rfl; rw [K1_in, V10] at this; exact this)) ?_
  rintro e w6 ⟨rfl, hx6⟩
  have HS6 := Lib.hid (HS5.out.ext hx6)
  have HT6 := Lib.hid (HT5.out.ext hx6)
  have hE6 := hE5.trans' hx6
  clear hx6 HS5 HT5 hE5
  go_upto_region 10 with (fail)
  have hnb := heap_at w6 (.cells #[.int .i64 0, .int .u64 10] 95) rfl
  have hxA : Ext w6 (w6.alloc (.cells #[.int .i64 0, .int .u64 10] 95)) := Ext.alloc' _ _
  have hs6 := hE6.size
  generalize w6.alloc (.cells #[.int .i64 0, .int .u64 10] 95) = w7 at *
  have HS7 := Lib.hid (HS6.out.ext hxA)
  have HT7 := Lib.hid (HT6.out.ext hxA)
  have hE7 := hE6.trans' hxA
  have hnl : ∀ i, cellsOf 2 L i → i ≠ w6.heap.size := fun i hi e => by have := HS6.out.ltc hi; omega
  have HNL := Lib.hid hnl
  have HNB := Lib.hid hnb
  clear hxA HS6 HT6 hE6 hnl hnb
  go_wp2_with fail
  refine Calls.mono (KMerge_c s g s2 g2 K1 2 L L2 K1a K1c _ HS7.out HT7.out (fun h => absurd h (by decide))) ?_
  intro e w8 hj8
  obtain ⟨rfl, hK8, hM8⟩ := kj_ok hj8 K1s_all
  replace hK8 : KAt w8 s g K1 2 L K1s := hK8
  have HS8 := Lib.hid hK8
  have HT8 := Lib.hid (HT7.out.mod hM8 (fun i hi _ => HS7.out.isc hi) (fun n hn => HD2.out n hn))
  have hE8 : Ext w w8 := Below.trans hE7 (hM8.below hE7.size HFF.out)
  have HNB8 := Lib.hid (hM8.keep HNB.out (fun h => HNL.out _ h rfl))
  clear hj8 hK8 hM8 HS7 HT7 hE7 HNB
  go_wp2_with fail
  refine Calls.mono (KCells_c s g K1 2 L K1s _ HS8.out 0 (by decide)) ?_
  rintro e w9 ⟨v, rfl, ho, _, hx9⟩
  have hv9 := IntsAt.of_row ho
  rw [K1s_0] at hv9 ho
  obtain ⟨p9, q9, rfl⟩ := own_sl ho
  have hob : ∀ k, (Value.slice p9 4 q9).ownBlock = some k → w8.heap.size ≤ k := fun k hk => own_blk ho hk
  have HS9 := Lib.hid (HS8.out.ext hx9)
  have HT9 := Lib.hid (HT8.out.ext hx9)
  have HNB9 := Lib.hid (hx9.keep HNB8.out)
  have hE9 := hE8.trans' hx9
  have hnv : ∀ i, cellsOf 2 L i → i < w8.heap.size := fun i hi => HS8.out.ltc hi
  have HNV := Lib.hid hnv
  have HV9 := Lib.hid hv9
  have HOB := Lib.hid hob
  clear ho hx9 HS8 HT8 HNB8 hv9 hnv hob
  go_wp2_with fail
  refine Calls.mono (KSubtract_c s g s2 g2 K1 2 L L2 K1s K1c _ HS9.out HT9.out (fun _ => by decide)) ?_
  intro e w10 hj10
  obtain ⟨rfl, hK10, hM10⟩ := kj_ok hj10 (fun n hn => by rw [K1_minus]; exact K1a_all n hn)
  have HS10 := Lib.hid (hK10.cong (ls' := K1a) (fun n _ => K1_minus n))
  have hE10 : Ext w w10 := Below.trans hE9 (hM10.below hE9.size HFF.out)
  have hnb10 := hM10.keep HNB9.out (fun h => HNL.out _ h rfl)
  have hv10 : IntsAt w10 (.slice p9 4 q9) [0, 7, 0, 4] := HV9.out.mod hM10 (fun g' off n' cap' he hc => by
    have h1 := HNV.out _ hc
    have h2 : p9 = some ⟨g', off, none⟩ := (Value.slice.inj he).1
    have h3 := HOB.out g' (by rw [h2]; rfl)
    omega)
  have HV10 := Lib.hid hv10
  have n0 := (cell_of hnb10 0).trans rfl
  have n1 := (cell_of hnb10 1).trans rfl
  have nl := lt_of hnb10
  clear hj10 hK10 hM10 HS9 HT9 hE9 hv10 hnb10
  go_wp2_with fail
  have hC0 := af_drew w10
  refine pi_start (fun w' => ∃ x : After w10, w' = x.w) [] (by kernel_rfl) ?_
  refine pi_t 0 rfl (by kernel_rfl) (by kernel_rfl) (fun _ _ _ _ h => h) (fun K hK => ?_)
  go_big_quiet_op
  refine hK _ ?_
  clear hK K
  refine pi_t 1 rfl (by kernel_rfl) (by kernel_rfl) (fun _ _ _ _ h => h) (fun K hK => ?_)
  go_big_quiet_op
  refine hK _ ?_
  clear hK K
  refine pi_t 2 rfl (by kernel_rfl) (by kernel_rfl) (fun _ _ _ _ h => h) (fun K hK => ?_)
  go_big_quiet_op
  refine hK _ ?_
  clear hK K
  refine pi_t 3 rfl (by kernel_rfl) (by kernel_rfl) (fun _ _ _ _ h => h) (fun K hK => ?_)
  go_big_quiet_op
  refine hK _ ?_
  clear hK K
  refine pi_t 4 rfl (by kernel_rfl) (by kernel_rfl) (fun _ _ _ _ h => h) (fun K hK => ?_)
  go_big_quiet_op
  refine hK _ ?_
  clear hK K
  refine pi_t 5 rfl (by kernel_rfl) (by kernel_rfl) (fun _ _ _ _ h => h) (fun K hK => ?_)
  go_big_quiet_op
  refine hK _ ?_
  clear hK K
  refine pi_t 6 rfl (by kernel_rfl) (by kernel_rfl) (fun _ _ _ _ h => h) (fun K hK => ?_)
  go_big_quiet_op
  refine hK _ ?_
  clear hK K
  refine pi_t 7 rfl (by kernel_rfl) (by kernel_rfl) (fun _ _ _ _ h => h) (fun K hK => ?_)
  go_big_quiet_op
  refine hK _ ?_
  clear hK K
  refine pi_t 8 rfl (by kernel_rfl) (by kernel_rfl) (fun _ _ _ _ h => h) (fun K hK => ?_)
  go_big_quiet_op
  refine hK _ ?_
  clear hK K
  refine pi_t 9 rfl (by kernel_rfl) (by kernel_rfl) (fun _ _ _ _ h => h) (fun K hK => ?_)
  go_big_quiet_op
  refine hK _ ?_
  clear hK K
  refine pi_t 10 rfl (by kernel_rfl) (by kernel_rfl) (fun _ _ _ _ h => h) (fun K hK => ?_)
  go_big_quiet_op
  refine hK _ ?_
  clear hK K
  refine pi_t 11 rfl (by kernel_rfl) (by kernel_rfl) (fun _ _ _ _ h => h) (fun K hK => ?_)
  go_big_quiet_op
  refine hK _ ?_
  clear hK K
  refine pi_t 12 rfl (by kernel_rfl) (by kernel_rfl) (fun _ _ _ _ h => h) (fun K hK => ?_)
  go_big_quiet_op
  refine hK _ ?_
  clear hK K
  refine pi_t 13 rfl (by kernel_rfl) (by kernel_rfl) (fun _ _ _ _ h => h) (fun K hK => ?_)
  go_big_quiet_op
  refine hK _ ?_
  clear hK K
  refine pi_t 14 rfl (by kernel_rfl) (by kernel_rfl) (fun _ _ _ _ h => h) (fun K hK => ?_)
  go_big_quiet_op
  refine hK _ ?_
  clear hK K
  refine pi_t 15 rfl (by kernel_rfl) (by kernel_rfl) (fun _ _ _ _ h => h) (fun K hK => ?_)
  go_big_quiet_op
  refine hK _ ?_
  clear hK K
  refine pi_t 16 rfl (by kernel_rfl) (by kernel_rfl) (fun _ _ _ _ h => h) (fun K hK => ?_)
  go_big_quiet_op
  refine hK _ ?_
  clear hK K
  refine pi_t 17 rfl (by kernel_rfl) (by kernel_rfl) (fun _ _ _ _ h => h) (fun K hK => ?_)
  go_big_quiet_op
  refine hK _ ?_
  clear hK K
  refine pi_t 18 rfl (by kernel_rfl) (by kernel_rfl) (fun _ _ _ _ h => h) (fun K hK => ?_)
  go_big_quiet_op
  refine hK _ ?_
  clear hK K
  refine pi_t 19 rfl (by kernel_rfl) (by kernel_rfl) (fun _ _ _ _ h => h) (fun K hK => ?_)
  go_big_quiet_op
  refine hK _ ?_
  clear hK K
  refine pi_t 20 rfl (by kernel_rfl) (by kernel_rfl) (fun _ _ _ _ h => h) (fun K hK => ?_)
  go_big_quiet_op
  refine hK _ ?_
  clear hK K
  refine pi_t 21 rfl (by kernel_rfl) (by kernel_rfl) (fun _ _ _ _ h => h) (fun K hK => ?_)
  go_big_quiet_op
  refine hK _ ?_
  clear hK K
  refine pi_t 22 rfl (by kernel_rfl) (by kernel_rfl) (fun _ _ _ _ h => h) (fun K hK => ?_)
  go_big_quiet_op
  refine hK _ ?_
  clear hK K
  refine pi_c 23 (by assumption) rfl (by kernel_rfl) (by kernel_rfl) (fun _ _ _ _ h => h) (fun K hK => ?_)
  go_big_quiet_op
  refine hK _ ?_
  clear hK K
  refine pi_l 24 rfl (by kernel_rfl) (fun K hK => ?_)
  go_wp2_with fail
  refine (Of10 _).mono ?_
  rintro e wa ⟨rfl, hxa⟩
  have hEa : Ext w10 wa := Ext.trans' (Below.drew (Ext.refl w10)) hxa
  go_wp2
  refine hK _ _ (fun _ h => af_step h hxa) ?_
  clear hK K n0 n1 nl
  refine pi_t 25 rfl (by kernel_rfl) (by kernel_rfl) (fun _ _ _ _ h => h) (fun K hK => ?_)
  go_big_quiet_op
  refine hK _ ?_
  clear hK K
  refine pi_t 26 rfl (by kernel_rfl) (by kernel_rfl) (fun _ _ _ _ h => h) (fun K hK => ?_)
  go_big_quiet_op
  refine hK _ ?_
  clear hK K
  refine pi_t 27 rfl (by kernel_rfl) (by kernel_rfl) (fun _ _ _ _ h => h) (fun K hK => ?_)
  go_big_quiet_op
  refine hK _ ?_
  clear hK K
  refine pi_t 28 rfl (by kernel_rfl) (by kernel_rfl) (fun _ _ _ _ h => h) (fun K hK => ?_)
  go_big_quiet_op
  refine hK _ ?_
  clear hK K
  refine pi_l 29 rfl (by kernel_rfl) (fun K hK => ?_)
  go_wp2
  refine hK _ _ (fun _ h => af_step h (Ext.alloc' _ _)) ?_
  clear hK K
  have hbb := heap_at wa (.cells #[.int .i64 0, .int .i64 7, .int .i64 0, .int .i64 4] 2) rfl
  have hxb : Ext wa (wa.alloc (.cells #[.int .i64 0, .int .i64 7, .int .i64 0, .int .i64 4] 2)) := Ext.alloc' _ _
  generalize wa.alloc (.cells #[.int .i64 0, .int .i64 7, .int .i64 0, .int .i64 4] 2) = wb at *
  have hEb := hEa.trans' hxb
  refine pi_l 30 rfl (by kernel_rfl) (fun K hK => ?_)
  go_wp2_with fail
  refine Calls.mono (Same_c _ _ [0, 7, 0, 4] [0, 7, 0, 4] _ (HV10.out.ext hEb) (ints4 (w := w) hbb) (by decide) (by decide)) ?_
  rintro e wc ⟨rfl, hxc⟩
  have hEc := hEb.trans' hxc
  go_wp2
  refine hK _ _ (fun _ h => af_step h hxc) ?_
  clear hK K hbb hxb
  have hSc := HS10.out.ext hEc
  have HSC := Lib.hid hSc
  clear hSc
  refine pi_t 31 rfl (by kernel_rfl) (by kernel_rfl) (fun _ _ _ _ h => h) (fun K hK => ?_)
  go_big_quiet_op
  refine hK _ ?_
  clear hK K
  refine pi_t 32 rfl (by kernel_rfl) (by kernel_rfl) (fun _ _ _ _ h => h) (fun K hK => ?_)
  go_big_quiet_op
  refine hK _ ?_
  clear hK K
  refine pi_t 33 rfl (by kernel_rfl) (by kernel_rfl) (fun _ _ _ _ h => h) (fun K hK => ?_)
  go_big_quiet_op
  refine hK _ ?_
  clear hK K
  refine pi_b 34 35 rfl rfl (by kernel_rfl) (fun K hK => ?_) (fun K hK => ?_)
  · go_wp2_with fail
    refine Calls.mono (KCells_c s g K1 2 L K1a _ HSC.out 0 (by decide)) ?_
    rintro e wd ⟨v, rfl, ho, _, hxd⟩
    have hv := IntsAt.of_row ho
    rw [K1a_0] at hv ho
    obtain ⟨p1, q1, rfl⟩ := own_sl ho
    have HV := Lib.hid hv
    clear ho hv
    have hEd := hEc.trans' hxd
    go_wp2
    refine hK _ _ (fun _ h => af_step h hxd) ?_
    clear hK K
    refine pi_l 35 rfl (by kernel_rfl) (fun K hK => ?_)
    go_wp2
    refine hK _ _ (fun _ h => af_step h (Ext.alloc' _ _)) ?_
    clear hK K
    have hbb := heap_at wd (.cells #[.int .i64 0, .int .i64 5, .int .i64 0, .int .i64 0] 2) rfl
    have hxe : Ext wd (wd.alloc (.cells #[.int .i64 0, .int .i64 5, .int .i64 0, .int .i64 0] 2)) := Ext.alloc' _ _
    generalize wd.alloc (.cells #[.int .i64 0, .int .i64 5, .int .i64 0, .int .i64 0] 2) = we at *
    have hEe := hEd.trans' hxe
    refine pi_l 36 rfl (by kernel_rfl) (fun K hK => ?_)
    go_wp2_with fail
    refine Calls.mono (Same_c _ _ [0, 5, 0, 0] [0, 5, 0, 0] _ (HV.out.ext hxe) (ints4 (w := w) hbb) (by decide) (by decide)) ?_
    rintro e wf ⟨rfl, hxf⟩
    have hEf := hEe.trans' hxf
    go_wp2
    refine hK _ _ (fun _ h => af_step h hxf) ?_
    clear hK K
    refine pi_t 37 rfl (by kernel_rfl) (by kernel_rfl) (fun _ _ _ _ h => h) (fun K hK => ?_)
    go_big_quiet_op
    refine hK _ ?_
    clear hK K
    refine pi_t 38 rfl (by kernel_rfl) (by kernel_rfl) (fun _ _ _ _ h => h) (fun K hK => ?_)
    go_big_quiet_op
    refine hK _ ?_
    clear hK K
    refine pi_t 39 rfl (by kernel_rfl) (by kernel_rfl) (fun _ _ _ _ h => h) (fun K hK => ?_)
    go_big_quiet_op
    refine hK _ ?_
    clear hK K
    refine pi_l 40 rfl (by kernel_rfl) (fun K hK => ?_)
    go_wp2_with fail
    refine Calls.mono (KMerge_nil2 s _) ?_
    rintro e wg ⟨rfl, hxg⟩
    go_wp2
    refine hK _ _ (fun _ h => af_step h hxg) ?_
    clear hK K
    refine pi_t 41 rfl (by kernel_rfl) (by kernel_rfl) (fun _ _ _ _ h => h) (fun K hK => ?_)
    go_big_quiet_op
    refine hK _ ?_
    clear hK K
    refine pi_t 42 rfl (by kernel_rfl) (by kernel_rfl) (fun _ _ _ _ h => h) (fun K hK => ?_)
    go_big_quiet_op
    refine hK _ ?_
    clear hK K
    refine pi_t 43 rfl (by kernel_rfl) (by kernel_rfl) (fun _ _ _ _ h => h) (fun K hK => ?_)
    go_big_quiet_op
    refine hK _ ?_
    clear hK K
    refine pi_end (by kernel_rfl) ?_
    go_wp2
    go_ret
    exact ⟨by first | rfl | simp, hE10.trans' (hEf.trans' hxg)⟩
  · go_wp2
    refine hK _ _ (fun _ h => af_step h (Ext.alloc' _ _)) ?_
    clear hK K
    have hbb := heap_at wc (.cells #[.int .i64 0, .int .i64 5, .int .i64 0, .int .i64 0] 2) rfl
    have hxe : Ext wc (wc.alloc (.cells #[.int .i64 0, .int .i64 5, .int .i64 0, .int .i64 0] 2)) := Ext.alloc' _ _
    generalize wc.alloc (.cells #[.int .i64 0, .int .i64 5, .int .i64 0, .int .i64 0] 2) = we at *
    have hEe := hEc.trans' hxe
    refine pi_l 34 rfl (by kernel_rfl) (fun K hK => ?_)
    go_wp2_with fail
    refine Calls.mono (KCells_c s g K1 2 L K1a _ (HSC.out.ext hxe) 0 (by decide)) ?_
    rintro e wd ⟨v, rfl, ho, _, hxd⟩
    have hv := IntsAt.of_row ho
    rw [K1a_0] at hv ho
    obtain ⟨p1, q1, rfl⟩ := own_sl ho
    have HV := Lib.hid hv
    clear ho hv
    have hEd := hEe.trans' hxd
    go_wp2
    refine hK _ _ (fun _ h => af_step h hxd) ?_
    clear hK K
    refine pi_l 36 rfl (by kernel_rfl) (fun K hK => ?_)
    go_wp2_with fail
    refine Calls.mono (Same_c _ _ [0, 5, 0, 0] [0, 5, 0, 0] _ HV.out ((ints4 (w := w) hbb).ext hxd) (by decide) (by decide)) ?_
    rintro e wf ⟨rfl, hxf⟩
    have hEf := hEd.trans' hxf
    go_wp2
    refine hK _ _ (fun _ h => af_step h hxf) ?_
    clear hK K
    refine pi_t 37 rfl (by kernel_rfl) (by kernel_rfl) (fun _ _ _ _ h => h) (fun K hK => ?_)
    go_big_quiet_op
    refine hK _ ?_
    clear hK K
    refine pi_t 38 rfl (by kernel_rfl) (by kernel_rfl) (fun _ _ _ _ h => h) (fun K hK => ?_)
    go_big_quiet_op
    refine hK _ ?_
    clear hK K
    refine pi_t 39 rfl (by kernel_rfl) (by kernel_rfl) (fun _ _ _ _ h => h) (fun K hK => ?_)
    go_big_quiet_op
    refine hK _ ?_
    clear hK K
    refine pi_l 40 rfl (by kernel_rfl) (fun K hK => ?_)
    go_wp2_with fail
    refine Calls.mono (KMerge_nil2 s _) ?_
    rintro e wg ⟨rfl, hxg⟩
    go_wp2
    refine hK _ _ (fun _ h => af_step h hxg) ?_
    clear hK K
    refine pi_t 41 rfl (by kernel_rfl) (by kernel_rfl) (fun _ _ _ _ h => h) (fun K hK => ?_)
    go_big_quiet_op
    refine hK _ ?_
    clear hK K
    refine pi_t 42 rfl (by kernel_rfl) (by kernel_rfl) (fun _ _ _ _ h => h) (fun K hK => ?_)
    go_big_quiet_op
    refine hK _ ?_
    clear hK K
    refine pi_t 43 rfl (by kernel_rfl) (by kernel_rfl) (fun _ _ _ _ h => h) (fun K hK => ?_)
    go_big_quiet_op
    refine hK _ ?_
    clear hK K
    refine pi_end (by kernel_rfl) ?_
    go_wp2
    go_ret
    exact ⟨by first | rfl | simp, hE10.trans' (hEf.trans' hxg)⟩
end Go.Proofs.YtdenbmmbeeamcaaGreat

/- Stacks that lie apart. -/
namespace Go.Proofs.YtdenbmmbeeamcaaGreat
set_option linter.unusedVariables false
open Go.RowKit
/-- All cells of a stack lie between two bounds. -/
def KIn (N M B : Nat) (L : Nat → Lev) : Prop := ∀ n, n ≤ B → N ≤ (L n).c ∧ (L n).c < M
theorem KAt.kin {w : World} {s g : Nat} {C : Cfg} {B : Nat} {L : Nat → Lev} {ls : Nat → List Int} (h : KAt w s g C B L ls) {N : Nat} (hF : KFresh N B L) : KIn N w.heap.size B L := fun n hn => ⟨(hF n hn).2.2, (h.lev n hn).ltc⟩
theorem KIn.cells {N M B : Nat} {L : Nat → Lev} (h : KIn N M B L) {k : Nat} (hk : cellsOf B L k) : N ≤ k ∧ k < M := by obtain ⟨n, hn, rfl⟩ := hk; exact h n hn
/-- What is done to the cells of one leaves another. -/
theorem KAt.part {w w' : World} {s g s2 g2 : Nat} {C C2 : Cfg} {B B2 : Nat} {L L2 : Nat → Lev} {ls ls2 : Nat → List Int} {N M N2 M2 : Nat} (h : KAt w s g C B L ls) (h2 : KAt w s2 g2 C2 B2 L2 ls2) (hm : Mod (cellsOf B2 L2) w w')
    (i1 : KIn N M B L) (i2 : KIn N2 M2 B2 L2) (hs : M ≤ N2 ∨ M2 ≤ N) : KAt w' s g C B L ls :=
  h.mod hm (fun i hi _ => h2.isc hi) (fun n hn hc => by have a := i1 n hn; have b := i2.cells hc; omega)
/-- A block that is no cell of a stack. -/
theorem KAt.blk {w w' : World} {s g : Nat} {C : Cfg} {B : Nat} {L : Nat → Lev} {ls : Nat → List Int} (h : KAt w s g C B L ls) (hm : Mod (cellsOf B L) w w') {b : Nat} {cur : Array Value} {t : TypeId} (hb : w.heap[b]? = some (.cells cur t (0, 0))) (ht : t ≠ 2) :
    w'.heap[b]? = some (.cells cur t (0, 0)) :=
  hm.keep hb (fun hc => by obtain ⟨c2, h2⟩ := h.isc hc; exact blk_ne hb h2 ht rfl)
theorem KAt.extm {w0 w w' : World} {s g : Nat} {C : Cfg} {B : Nat} {L : Nat → Lev} {ls : Nat → List Int} {N M : Nat} (hE : Ext w0 w) (hm : Mod (cellsOf B L) w w') (i : KIn N M B L) (hN : w0.heap.size ≤ N) : Ext w0 w' :=
  Below.trans hE (hm.below hE.size (fun k hk => Nat.le_trans hN (i.cells hk).1))
end Go.Proofs.YtdenbmmbeeamcaaGreat

/- gaugerlaw20.MergeFresh, walked. -/
namespace Go.Proofs.YtdenbmmbeeamcaaGreat
set_option linter.unusedVariables false
open Go.RowKit
structure FreshLaw (C : Cfg) (B : Nat) (A Bv All Ls D : Nat → List Int) : Prop where
  one : ∀ n, n ≤ B → plusL (A n) (Bv n) = All n
  two : ∀ n, n ≤ B → plusL (Bv n) (A n) = All n
  three : ∀ n, n ≤ B → minusL (A n) (Bv n) = D n
  four : ∀ n, n ≤ B → plusL (Ls n) (A n) = D n
  all : ∀ n, n ≤ B → allI (All n)
  dif : ∀ n, n ≤ B → allI (D n)
theorem fresh_law {C : Cfg} (hok : C.Ok) {B : Nat} (hB : C.bits = B) (hm : C.mode ≠ 2) {us : List (Int × Int)} (hus : UpsOk us) {k : Nat} (hk : k ≤ 60) :
    FreshLaw C B (feedT C false (fus us 0 k)) (feedT C false (fus us k 60)) (feedT C false (fus us 0 60)) (feedT C true (fus us k 60)) (fun n => minusL (feedT C false (fus us 0 k) n) (feedT C false (fus us k 60) n)) := by
  have hl : ∀ i, (fus us i 60).length ≤ 60 := fun i => fus_len us i 60
  have hlk : (fus us 0 k).length ≤ 60 := Nat.le_trans (fus_len us 0 k) hk
  have hlen : ∀ n, (feedT C false (fus us 0 k) n).length = (feedT C false (fus us k 60) n).length := fun n => by rw [feedT_len, feedT_len]
  have hone : ∀ n, n ≤ B → plusL (feedT C false (fus us 0 k) n) (feedT C false (fus us k 60) n) = feedT C false (fus us 0 60) n := fun n hn => by
    rw [feedT_false, feedT_false, feedT_false, feedK_plus hok (by omega) (.inr hm) (fus_ok hus 0 k) (fus_ok hus k 60), fus_cut3 us (Nat.zero_le k) hk]
  refine ⟨hone, fun n hn => ?_, fun n _ => rfl, fun n hn => ?_, fun n hn => ?_, fun n hn => ?_⟩
  · rw [plusL_comm (hlen n).symm]; exact hone n hn
  · rw [feedT_neg (.inr hm), ← feedT_false, neg_plus (hlen n)]
  · exact (feedT_bnd C false (fus us 0 60) n).allI (by have := hl 0; omega)
  · exact (minusL_bnd (feedT_bnd C false (fus us 0 k) n) (feedT_bnd C false (fus us k 60) n) (by omega)).allI (by have := hl k; omega)
set_option maxRecDepth 20000 in
set_option maxHeartbeats 16000000 in
theorem MFresh_core (x : Cfg) (hx : x.Raw) (part : Int) (k : Nat) (hk60 : k ≤ 60) (b : Bool) (m : Int) (hbm : m = bif b then 3 else 1) (h16 : bits BinOp.and IntKind.i64 part 65535 = part % 65536) (hk : part % 65536 % 61 = k) (h16b : 0 ≤ part % 65536 ∧ part % 65536 < 65536) (us : List (Int × Int)) (hus : UpsOk us) (v : Value) (w : World) (hv : UpsAt w v us) (hul : us.length ≤ 140737488355328) :
    Calls Tryz.prog 15 #[.agg #[.int .i64 x.bits, .int .i64 x.rows, .int .i64 x.width, .int .i64 x.mode, .int .u64 x.seed, v], .int .i64 part, .bool b] w fun e w' => e = .returned (.bool true) ∧ Ext w w' := by
  obtain ⟨vp, vc, rfl⟩ := hv.sl
  have HV := Lib.hid hv
  have HK := Lib.hid hk
  clear hv hk
  go_enter Tryz.func15, Tryz.ntmps15
  go_wp2_with fail
  refine (shown20_c _).mono ?_
  rintro e w1 ⟨rfl, hb1⟩
  have hE1 : Ext w w1 := by (repeat' (first | exact Ext.refl _ | assumption | apply Ext.allocR | apply Ext.drewR | apply Ext.drewNR | (refine Ext.trans' ?_ (by assumption))))
  have hP1 := hb1.keep (heap_at w (.cells #[.int .i64 x.bits, .int .i64 x.rows, .int .i64 x.width, .int .i64 x.mode, .int .u64 x.seed, .slice vp us.length vc] 128) rfl)
  have p0 := (cell_of hP1 0).trans rfl
  have p1 := (cell_of hP1 1).trans rfl
  have p2 := (cell_of hP1 2).trans rfl
  have p3 := (cell_of hP1 3).trans rfl
  have p4 := (cell_of hP1 4).trans rfl
  have p5 := (cell_of hP1 5).trans rfl
  have pl := lt_of hP1
  clear hb1
  have hm1 : 0 < m := by rw [hbm]; cases b <;> decide
  have hm3 : m ≤ 3 := by rw [hbm]; cases b <;> decide
  have hm2 : m ≠ 2 := by rw [hbm]; cases b <;> decide
  go_upto_if 25 with (fail)
  go_cut [8] (fun s8 wx => s8 = .int .i64 m ∧ wx = w1)
  case first =>
    cases b
    · have hm : m = 1 := hbm
      subst hm
      go_wp2_with fail
      go_meet
      exact ⟨rfl, rfl⟩
    · have hm : m = 3 := hbm
      subst hm
      go_wp2_with fail
      go_meet
      exact ⟨rfl, rfl⟩
  case rest =>
    obtain ⟨rfl, rfl⟩ := hcut
    rename World => w1
    clear hbm
    have hcm : (kcfg x 10 m).mode = m := by unfold kcfg; rw [if_pos hm1]
    have hok := kcfg_ok x hx.s (nb := 10) (m := m) (by decide) (by decide) hm3
    have HT := Lib.hid (show ∀ t : Bool, t = true → (kcfg x 10 m).mode ≠ 2 from fun _ _ => by rw [hcm]; exact hm2)
    have hmo : (kcfg x 10 m).mode ≠ 2 := by rw [hcm]; exact hm2
    have HFF := Lib.hid (fun (i j : Nat) (hij : i ≤ j) (hj : j ≤ 60) (W : World) (hW : Ext w W) => fed20f_c x hx m (by omega) hm3 us hus (.slice vp us.length vc) i j hij hj (HT.out false) W (HV.out.ext hW) hul)
    have HFT := Lib.hid (fun (i j : Nat) (hij : i ≤ j) (hj : j ≤ 60) (W : World) (hW : Ext w W) => fed20t_c x hx m (by omega) hm3 us hus (.slice vp us.length vc) i j hij hj (HT.out true) W (HV.out.ext hW) hul)
    have hk0 : 0 ≤ part % 65536 % 61 := by have := HK.out; omega
    go_wp2_with fail
    rw [HK.out]
    generalize kcfg x 10 m = C at *
    obtain ⟨B, hB⟩ : ∃ B : Nat, C.bits = B := ⟨C.bits.toNat, by have := hok.b1; omega⟩
    have hBt : C.bits.toNat = B := by omega
    have HLAW := Lib.hid (fresh_law hok hB hmo hus hk60)
    have HBT := Lib.hid hBt
    have HMO := Lib.hid hmo
    clear hBt hB hcm hmo h16 hk0 h16b
    refine Calls.mono (HFF.out 0 k (Nat.zero_le _) hk60 _ hE1) ?_
    rintro e w2 ⟨s1, g1, L1, rfl, hK1, _, _, hF1, hx2⟩
    rw [HBT.out] at hK1 hF1
    have I1 := Lib.hid (hK1.kin hF1)
    have hE2 := hE1.trans' hx2
    have hP2 := hx2.keep hP1
    have hs1 := hE1.size
    have hs2 := hx2.size
    have K1 := Lib.hid hK1
    clear p0 p1 p2 p3 p4 p5 pl hP1 hx2 hK1 hF1 hE1
    obtain ⟨w3, hw3⟩ : ∃ w3, w2.alloc (.cells #[.int .i64 C.bits, .int .i64 C.rows, .int .i64 C.width, .int .i64 C.mode, .int .u64 C.seed] 24) = w3 := ⟨_, rfl⟩
    have hx3 : Ext w2 w3 := by rw [← hw3]; exact Ext.alloc' _ _
    have hQ3 : w3.heap[w2.heap.size]? = some (.cells #[.int .i64 C.bits, .int .i64 C.rows, .int .i64 C.width, .int .i64 C.mode, .int .u64 C.seed] 24 (0, 0)) := by rw [← hw3]; exact heap_at _ _ rfl
    go_upto_region 7 with (fail)
    try rw [hw3]
    clear hw3
    have hP3 := hx3.keep hP2
    have hE3 := hE2.trans' hx3
    have hs3 := hx3.size
    have KK1 := Lib.hid (K1.out.ext hx3)
    have p0 := (cell_of hP3 0).trans rfl
    have p1 := (cell_of hP3 1).trans rfl
    have p2 := (cell_of hP3 2).trans rfl
    have p3 := (cell_of hP3 3).trans rfl
    have p4 := (cell_of hP3 4).trans rfl
    have p5 := (cell_of hP3 5).trans rfl
    have pl := lt_of hP3
    clear K1 hP2 hx3 hE2
    go_wp2_with fail
    refine Calls.mono (HFF.out k 60 hk60 (Nat.le_refl _) _ hE3) ?_
    rintro e w4 ⟨s2, g2, L2, rfl, hK2, _, _, hF2, hx4⟩
    rw [HBT.out] at hK2 hF2
    have I2 := Lib.hid (hK2.kin hF2)
    have hx5 : Ext w4 (w4.alloc (.cells #[.int .i64 C.bits, .int .i64 C.rows, .int .i64 C.width, .int .i64 C.mode, .int .u64 C.seed] 24)) := Ext.alloc' _ _
    go_upto_region 8 with (fail)
    generalize w4.alloc (.cells #[.int .i64 C.bits, .int .i64 C.rows, .int .i64 C.width, .int .i64 C.mode, .int .u64 C.seed] 24) = w5 at *
    have hx45 := hx4.trans' hx5
    have K2 := Lib.hid (hK2.ext hx5)
    have K1 := Lib.hid (KK1.out.ext hx45)
    have hP5 := hx45.keep hP3
    have hQ5 := hx45.keep hQ3
    have hE5 := hE3.trans' hx45
    have hs4 := hx4.size
    have hs5 := hx5.size
    clear p0 p1 p2 p3 p4 p5 pl KK1 hK2 hF2 hP3 hQ3 hx4 hx5 hx45 hE3
    have p0 := (cell_of hP5 0).trans rfl
    have p1 := (cell_of hP5 1).trans rfl
    have p2 := (cell_of hP5 2).trans rfl
    have p3 := (cell_of hP5 3).trans rfl
    have p4 := (cell_of hP5 4).trans rfl
    have p5 := (cell_of hP5 5).trans rfl
    have pl := lt_of hP5
    go_wp2_with fail
    refine Calls.mono (HFF.out 0 60 (Nat.zero_le _) (Nat.le_refl _) _ hE5) ?_
    rintro e w6 ⟨s3, g3, L3, rfl, hK3, _, _, hF3, hx6⟩
    rw [HBT.out] at hK3 hF3
    have I3 := Lib.hid (hK3.kin hF3)
    have hx7 : Ext w6 (w6.alloc (.cells #[.int .i64 C.bits, .int .i64 C.rows, .int .i64 C.width, .int .i64 C.mode, .int .u64 C.seed] 24)) := Ext.alloc' _ _
    go_upto_region 9 with (fail)
    generalize w6.alloc (.cells #[.int .i64 C.bits, .int .i64 C.rows, .int .i64 C.width, .int .i64 C.mode, .int .u64 C.seed] 24) = w7 at *
    have hx67 := hx6.trans' hx7
    have K3 := Lib.hid (hK3.ext hx7)
    have KK1 := Lib.hid (K1.out.ext hx67)
    have KK2 := Lib.hid (K2.out.ext hx67)
    have hP7 := hx67.keep hP5
    have hQ7 := hx67.keep hQ5
    have hE7 := hE5.trans' hx67
    have hs6 := hx6.size
    have hs7 := hx7.size
    clear p0 p1 p2 p3 p4 p5 pl K1 K2 hK3 hF3 hP5 hQ5 hx6 hx7 hx67 hE5
    have p0 := (cell_of hP7 0).trans rfl
    have p1 := (cell_of hP7 1).trans rfl
    have p2 := (cell_of hP7 2).trans rfl
    have p3 := (cell_of hP7 3).trans rfl
    have p4 := (cell_of hP7 4).trans rfl
    have p5 := (cell_of hP7 5).trans rfl
    have pl := lt_of hP7
    go_wp2_with fail
    refine Calls.mono (HFT.out k 60 hk60 (Nat.le_refl _) _ hE7) ?_
    rintro e w8 ⟨s4, g4, L4, rfl, hK4, _, _, hF4, hx8⟩
    rw [HBT.out] at hK4 hF4
    have I4 := Lib.hid (hK4.kin hF4)
    have hx9 : Ext w8 (w8.alloc (.cells #[.int .i64 C.bits, .int .i64 C.rows, .int .i64 C.width, .int .i64 C.mode, .int .u64 C.seed] 24)) := Ext.alloc' _ _
    go_upto_region 10 with (fail)
    generalize w8.alloc (.cells #[.int .i64 C.bits, .int .i64 C.rows, .int .i64 C.width, .int .i64 C.mode, .int .u64 C.seed] 24) = w9 at *
    have hx89 := hx8.trans' hx9
    have K4 := Lib.hid (hK4.ext hx9)
    have K1 := Lib.hid (KK1.out.ext hx89)
    have K2 := Lib.hid (KK2.out.ext hx89)
    have KK3 := Lib.hid (K3.out.ext hx89)
    have hQ9 := hx89.keep hQ7
    have hE9 := hE7.trans' hx89
    have hs8 := hx8.size
    have hs9 := hx9.size
    clear p0 p1 p2 p3 p4 p5 pl KK1 KK2 K3 hK4 hF4 hP7 hQ7 hx8 hx9 hx89 hE7 HFF HFT HT
    generalize feedT C false (fus us 0 k) = fA at *
    generalize feedT C false (fus us k 60) = fB at *
    generalize feedT C false (fus us 0 60) = fAll at *
    generalize feedT C true (fus us k 60) = fL at *
    -- the copies
    go_wp2_with fail
    refine Calls.mono (KCopy_c s1 g1 C B L1 fA _ K1.out) ?_
    rintro e wa ⟨s5, g5, L5, rfl, hK5, _, _, hF5, hxa⟩
    have I5 := Lib.hid (hK5.kin hF5)
    have hsa := hxa.size
    have hEa := hE9.trans' hxa
    have KK2 := Lib.hid (K2.out.ext hxa)
    have KK1 := Lib.hid (K1.out.ext hxa)
    have K3 := Lib.hid (KK3.out.ext hxa)
    have KK4 := Lib.hid (K4.out.ext hxa)
    have K5 := Lib.hid hK5
    have hQa := hxa.keep hQ9
    clear K1 K2 KK3 K4 hK5 hF5 hxa hE9 hQ9
    go_wp2_with fail
    refine Calls.mono (KCopy_c s2 g2 C B L2 fB _ KK2.out) ?_
    rintro e wb ⟨s6, g6, L6, rfl, hK6, _, _, hF6, hxb⟩
    have I6 := Lib.hid (hK6.kin hF6)
    have hsb := hxb.size
    have hEb := hEa.trans' hxb
    have K2 := Lib.hid (KK2.out.ext hxb)
    have K1 := Lib.hid (KK1.out.ext hxb)
    have KK3 := Lib.hid (K3.out.ext hxb)
    have K4 := Lib.hid (KK4.out.ext hxb)
    have KK5 := Lib.hid (K5.out.ext hxb)
    have K6 := Lib.hid hK6
    have hQb := hxb.keep hQa
    clear KK1 KK2 K3 KK4 K5 hK6 hF6 hxb hEa hQa
    go_wp2_with fail
    refine Calls.mono (KCopy_c s1 g1 C B L1 fA _ K1.out) ?_
    rintro e wc ⟨s7, g7, L7, rfl, hK7, _, _, hF7, hxc⟩
    have I7 := Lib.hid (hK7.kin hF7)
    have hsc := hxc.size
    have hEc := hEb.trans' hxc
    have KK2 := Lib.hid (K2.out.ext hxc)
    have KK1 := Lib.hid (K1.out.ext hxc)
    have K3 := Lib.hid (KK3.out.ext hxc)
    have KK4 := Lib.hid (K4.out.ext hxc)
    have K5 := Lib.hid (KK5.out.ext hxc)
    have KK6 := Lib.hid (K6.out.ext hxc)
    have K7 := Lib.hid hK7
    have hQc := hxc.keep hQb
    clear K1 K2 KK3 K4 KK5 K6 hK7 hF7 hxc hEb hQb
    have HSZ := Lib.hid (show w.heap.size ≤ w1.heap.size ∧ w1.heap.size ≤ w2.heap.size ∧ w2.heap.size ≤ w3.heap.size ∧ w3.heap.size ≤ w4.heap.size ∧ w4.heap.size ≤ w5.heap.size ∧ w5.heap.size ≤ w6.heap.size ∧ w6.heap.size ≤ w7.heap.size ∧ w7.heap.size ≤ w8.heap.size ∧ w8.heap.size ≤ w9.heap.size ∧ w9.heap.size ≤ wa.heap.size ∧ wa.heap.size ≤ wb.heap.size ∧ wb.heap.size ≤ wc.heap.size by omega)
    clear hs1 hs2 hs3 hs4 hs5 hs6 hs7 hs8 hs9 hsa hsb hsc
    -- Merge(one, b)
    go_wp2_with fail
    refine Calls.mono (KMerge_c s5 g5 s2 g2 C B L5 L2 fA fB _ K5.out KK2.out (fun h => absurd h (by decide))) ?_
    intro e wd hjd
    obtain ⟨rfl, hKd, hMd⟩ := kj_ok hjd (fun n hn => by rw [HLAW.out.one n hn]; exact HLAW.out.all n hn)
    have D5 := Lib.hid (hKd.cong (fun n hn => HLAW.out.one n hn))
    have D1 := Lib.hid (KK1.out.part K5.out hMd I1.out I5.out (by have := HSZ.out; omega))
    have D2 := Lib.hid (KK2.out.part K5.out hMd I2.out I5.out (by have := HSZ.out; omega))
    have D3 := Lib.hid (K3.out.part K5.out hMd I3.out I5.out (by have := HSZ.out; omega))
    have D4 := Lib.hid (KK4.out.part K5.out hMd I4.out I5.out (by have := HSZ.out; omega))
    have D6 := Lib.hid (KK6.out.part K5.out hMd I6.out I5.out (by have := HSZ.out; omega))
    have D7 := Lib.hid (K7.out.part K5.out hMd I7.out I5.out (by have := HSZ.out; omega))
    have hQd := K5.out.blk hMd hQc (by decide)
    have hEd : Ext w wd := KAt.extm (s := 0) (g := 0) (C := C) (ls := fA) hEc hMd I5.out (by have := HSZ.out; omega)
    clear hjd hKd hMd KK1 KK2 K3 KK4 K5 KK6 K7 hQc hEc
    -- Merge(two, a)
    go_wp2_with fail
    refine Calls.mono (KMerge_c s6 g6 s1 g1 C B L6 L1 fB fA _ D6.out D1.out (fun h => absurd h (by decide))) ?_
    intro e we hje
    obtain ⟨rfl, hKe, hMe⟩ := kj_ok hje (fun n hn => by rw [HLAW.out.two n hn]; exact HLAW.out.all n hn)
    have E6 := Lib.hid (hKe.cong (fun n hn => HLAW.out.two n hn))
    have E1 := Lib.hid (D1.out.part D6.out hMe I1.out I6.out (by have := HSZ.out; omega))
    have E2 := Lib.hid (D2.out.part D6.out hMe I2.out I6.out (by have := HSZ.out; omega))
    have E3 := Lib.hid (D3.out.part D6.out hMe I3.out I6.out (by have := HSZ.out; omega))
    have E4 := Lib.hid (D4.out.part D6.out hMe I4.out I6.out (by have := HSZ.out; omega))
    have E5 := Lib.hid (D5.out.part D6.out hMe I5.out I6.out (by have := HSZ.out; omega))
    have E7 := Lib.hid (D7.out.part D6.out hMe I7.out I6.out (by have := HSZ.out; omega))
    have hQe := D6.out.blk hMe hQd (by decide)
    have hEe : Ext w we := KAt.extm (s := 0) (g := 0) (C := C) (ls := fA) hEd hMe I6.out (by have := HSZ.out; omega)
    clear hje hKe hMe D1 D2 D3 D4 D5 D6 D7 hQd hEd
    -- Subtract(three, b)
    go_wp2_with fail
    refine Calls.mono (KSubtract_c s7 g7 s2 g2 C B L7 L2 fA fB _ E7.out E2.out (fun _ => HMO.out)) ?_
    intro e wf hjf
    obtain ⟨rfl, hKf, hMf⟩ := kj_ok hjf (fun n hn => by rw [HLAW.out.three n hn]; exact HLAW.out.dif n hn)
    have G7 := Lib.hid (hKf.cong (fun n hn => HLAW.out.three n hn))
    have G1 := Lib.hid (E1.out.part E7.out hMf I1.out I7.out (by have := HSZ.out; omega))
    have G3 := Lib.hid (E3.out.part E7.out hMf I3.out I7.out (by have := HSZ.out; omega))
    have G4 := Lib.hid (E4.out.part E7.out hMf I4.out I7.out (by have := HSZ.out; omega))
    have G5 := Lib.hid (E5.out.part E7.out hMf I5.out I7.out (by have := HSZ.out; omega))
    have G6 := Lib.hid (E6.out.part E7.out hMf I6.out I7.out (by have := HSZ.out; omega))
    have hQf := E7.out.blk hMf hQe (by decide)
    have hEf : Ext w wf := KAt.extm (s := 0) (g := 0) (C := C) (ls := fA) hEe hMf I7.out (by have := HSZ.out; omega)
    clear hjf hKf hMf E1 E2 E3 E4 E5 E6 E7 hQe hEe
    -- Merge(less, a)
    go_wp2_with fail
    refine Calls.mono (KMerge_c s4 g4 s1 g1 C B L4 L1 fL fA _ G4.out G1.out (fun h => absurd h (by decide))) ?_
    intro e wg hjg
    obtain ⟨rfl, hKg, hMg⟩ := kj_ok hjg (fun n hn => by rw [HLAW.out.four n hn]; exact HLAW.out.dif n hn)
    have J4 := Lib.hid (hKg.cong (fun n hn => HLAW.out.four n hn))
    have J3 := Lib.hid (G3.out.part G4.out hMg I3.out I4.out (by have := HSZ.out; omega))
    have J5 := Lib.hid (G5.out.part G4.out hMg I5.out I4.out (by have := HSZ.out; omega))
    have J6 := Lib.hid (G6.out.part G4.out hMg I6.out I4.out (by have := HSZ.out; omega))
    have J7 := Lib.hid (G7.out.part G4.out hMg I7.out I4.out (by have := HSZ.out; omega))
    have hQg := G4.out.blk hMg hQf (by decide)
    have hEg : Ext w wg := KAt.extm (s := 0) (g := 0) (C := C) (ls := fA) hEf hMg I4.out (by have := HSZ.out; omega)
    have q0 := (cell_of hQg 0).trans rfl
    have ql := lt_of hQg
    clear hjg hKg hMg G1 G3 G4 G5 G6 G7 hQf hEf
    go_wp2_with fail
    refine Calls.mono (Alike20_c s5 g5 s3 g3 C B L5 L3 fAll fAll _ J5.out J3.out (fun n _ => rfl)) ?_
    rintro e wh ⟨rfl, hxh⟩
    have hQh := hxh.keep hQg
    have hEh := hEg.trans' hxh
    clear q0 ql
    have q0 := (cell_of hQh 0).trans rfl
    have ql := lt_of hQh
    go_wp2_with fail
    refine Calls.mono (Alike20_c s6 g6 s3 g3 C B L6 L3 fAll fAll _ (J6.out.ext hxh) (J3.out.ext hxh) (fun n _ => rfl)) ?_
    rintro e wi ⟨rfl, hxi⟩
    have hxhi := hxh.trans' hxi
    have hQi := hxi.keep hQh
    have hEi := hEh.trans' hxi
    clear q0 ql
    have q0 := (cell_of hQi 0).trans rfl
    have ql := lt_of hQi
    go_wp2_with fail
    refine Calls.mono (Alike20_c s7 g7 s4 g4 C B L7 L4 _ _ _ (J7.out.ext hxhi) (J4.out.ext hxhi) (fun n _ => rfl)) ?_
    rintro e wj ⟨rfl, hxj⟩
    go_wp2
    go_ret
    exact ⟨rfl, hEi.trans' hxj⟩
theorem MFreshL_c (x : Cfg) (hx : x.Raw) (part : Int) (hpart : I64 part) (b : Bool) (us : List (Int × Int)) (hus : UpsOk us) (v : Value) (w : World) (hv : UpsAt w v us) (hul : us.length ≤ 140737488355328) :
    Calls Tryz.prog 15 #[.agg #[.int .i64 x.bits, .int .i64 x.rows, .int .i64 x.width, .int .i64 x.mode, .int .u64 x.seed, v], .int .i64 part, .bool b] w fun e w' => e = .returned (.bool true) ∧ Ext w w' := by
  have h1 := Int.emod_nonneg (part % 65536) (show (61 : Int) ≠ 0 by decide)
  have h2 := Int.emod_lt_of_pos (part % 65536) (show (0 : Int) < 61 by decide)
  exact MFresh_core x hx part (part % 65536 % 61).toNat (by omega) b _ rfl (and16 part) (by omega) ⟨by omega, by omega⟩ us hus v w hv hul
end Go.Proofs.YtdenbmmbeeamcaaGreat

/- What the arguments of the statements read as: a config, updates, a play. No condition. -/
namespace Go.Proofs.YtdenbmmbeeamcaaGreat
set_option linter.unusedVariables false
open Go.ChangeShapes Go.WideShapes Go.ChangeAt Go.RowKit Go.Deep

theorem wf_u64 {x : Int} (h : (Lit.int IntKind.u64 x).wf = true) : U64 x := by
  have := bounds_u64 h
  exact ⟨this.1, by omega⟩
theorem wf_i64 {x : Int} (h : (Lit.int IntKind.i64 x).wf = true) : I64 x := by
  have := bounds_i64 h
  exact ⟨this.1, by omega⟩
section
variable {H : Type} {enc : TypeId × Value → H} {w : World} {base : Nat} {spare : Nat → Bool} {held : Bool}
set_option maxRecDepth 100000 in
/-- Five cells that read as a config. -/
theorem cfg_of {n : Nat} {cs : List Value} {y : DataW H × List MemPlace} (h : DataW.trod enc Tryz.prog w base spare held n 24 cs = some y) :
    ∃ C : Cfg, C.Raw ∧ cs = [.int .i64 C.bits, .int .i64 C.rows, .int .i64 C.width, .int .i64 C.mode, .int .u64 C.seed] := by
  obtain ⟨xs, n, _, _, hl, hx, hg⟩ := DataW.trod_struct Tryz.underlying24 h
  have hl' : cs.length = 5 := hl.trans (by kernel_rfl)
  match cs, hl' with
  | [c0, c1, c2, c3, c4], _ =>
    have hx' : xs.length = 5 := hx.trans (by kernel_rfl)
    match xs, hx' with
    | [x0, x1, x2, x3, x4], _ =>
      have e0 : DataW.trod enc Tryz.prog w base spare held n 3 [c0] = some x0 := hg 0 _ rfl
      have e1 : DataW.trod enc Tryz.prog w base spare held n 3 [c1] = some x1 := hg 1 _ rfl
      have e2 : DataW.trod enc Tryz.prog w base spare held n 3 [c2] = some x2 := hg 2 _ rfl
      have e3 : DataW.trod enc Tryz.prog w base spare held n 3 [c3] = some x3 := hg 3 _ rfl
      have e4 : DataW.trod enc Tryz.prog w base spare held n 22 [c4] = some x4 := hg 4 _ rfl
      obtain ⟨a0, h0, _, w0⟩ := DataW.trod_int Tryz.underlying3 e0
      obtain ⟨a1, h1, _, w1⟩ := DataW.trod_int Tryz.underlying3 e1
      obtain ⟨a2, h2, _, w2⟩ := DataW.trod_int Tryz.underlying3 e2
      obtain ⟨a3, h3, _, w3⟩ := DataW.trod_int Tryz.underlying3 e3
      obtain ⟨a4, h4, _, w4⟩ := DataW.trod_int Tryz.underlying22 e4
      simp only [List.cons.injEq, and_true] at h0 h1 h2 h3 h4
      exact ⟨⟨a0, a1, a2, a3, a4⟩, ⟨wf_i64 w0, wf_i64 w1, wf_i64 w2, wf_i64 w3, wf_u64 w4⟩, by rw [h0, h1, h2, h3, h4]⟩
set_option maxRecDepth 100000 in
/-- Two cells that read as an update. -/
theorem upd_of {n : Nat} {cs : List Value} {y : DataW H × List MemPlace} (h : DataW.trod enc Tryz.prog w base spare held n 60 cs = some y) :
    ∃ u : Int × Int, (U64 u.1 ∧ I64 u.2) ∧ cs = [.int .u64 u.1, .int .i64 u.2] := by
  obtain ⟨xs, n, _, _, hl, hx, hg⟩ := DataW.trod_struct Tryz.underlying60 h
  have hl' : cs.length = 2 := hl.trans (by kernel_rfl)
  match cs, hl' with
  | [c0, c1], _ =>
    have hx' : xs.length = 2 := hx.trans (by kernel_rfl)
    match xs, hx' with
    | [x0, x1], _ =>
      have e0 : DataW.trod enc Tryz.prog w base spare held n 22 [c0] = some x0 := hg 0 _ rfl
      have e1 : DataW.trod enc Tryz.prog w base spare held n 2 [c1] = some x1 := hg 1 _ rfl
      obtain ⟨a0, h0, _, w0⟩ := DataW.trod_int Tryz.underlying22 e0
      obtain ⟨a1, h1, _, w1⟩ := DataW.trod_int Tryz.underlying2 e1
      simp only [List.cons.injEq, and_true] at h0 h1
      exact ⟨(a0, a1), ⟨wf_u64 w0, wf_i64 w1⟩, by rw [h0, h1]⟩
theorem add_plain0 (b off i : Nat) : (Addr.add ⟨b, off, none⟩ i) = ⟨b, off + i, none⟩ := by
  unfold Addr.add
  by_cases h : i = 0
  · subst h; simp
  · simp [h]
theorem choose_list {α : Type} (P : Nat → α → Prop) : ∀ n, (∀ i, i < n → ∃ x, P i x) → ∃ l : List α, l.length = n ∧ ∀ i (h : i < l.length), P i l[i] := by
  intro n
  induction n with
  | zero => intro _; exact ⟨[], rfl, fun i h => by simp at h⟩
  | succ n ih =>
    intro h
    obtain ⟨l, hl, hP⟩ := ih (fun i hi => h i (by omega))
    obtain ⟨x, hx⟩ := h n (by omega)
    refine ⟨l ++ [x], by simp [hl], fun i hi => ?_⟩
    by_cases e : i < l.length
    · rw [List.getElem_append_left e]; exact hP i e
    · have : i = n := by simp at hi; omega
      subst this
      rw [List.getElem_append_right (by omega)]
      simp [hl, hx]
/-- A cell that reads as a slice of updates. -/
theorem ups_of {n : Nat} {v : Value} {y : DataW H × List MemPlace} (h : DataW.trod enc Tryz.prog w 0 (fun _ => true) held n 56 [v] = some y) :
    ∃ us : List (Int × Int), UpsOk us ∧ UpsAt w v us ∧ (us = [] ∨ ∃ el sp : List (DataW H), y.1 = .slice el sp ∧ el.length = us.length) := by
  rcases open_slice Tryz.underlying56 h with ⟨hcs, _⟩ | ⟨a, len, cap, m, n', D, Pl, hcs, _, hlc, hcm, hm, hx, hi⟩
  · simp only [List.cons.injEq, and_true] at hcs
    subst hcs
    exact ⟨[], (by intro u hu; cases hu), .inl ⟨⟨_, rfl⟩, rfl⟩, .inl rfl⟩
  · simp only [List.cons.injEq, and_true] at hcs
    subst hcs
    simp only [if_true] at hm
    rw [hm] at hi hx
    clear hm
    have hC : Tryz.prog.cellsOf 60 = 2 := by kernel_rfl
    rw [hC] at hi
    have key : ∀ i, i < len → ∃ u : Int × Int, (U64 u.1 ∧ I64 u.2) ∧ w.cell? (a.add (i * 2)) = some (.int .u64 u.1) ∧ w.cell? (a.add (i * 2 + 1)) = some (.int .i64 u.2) := by
      intro i hil
      obtain ⟨cs', hc, ht⟩ := hi i (by omega)
      obtain ⟨u, hu, rfl⟩ := upd_of ht
      obtain ⟨_, _, hat⟩ := World.cells?_some hc
      refine ⟨u, hu, ?_, ?_⟩
      · have := hat 0 (by omega); rw [add_add, Nat.add_zero] at this; exact this
      · have := hat 1 (by omega); rw [add_add] at this; exact this
    obtain ⟨us, hul, hus⟩ := choose_list _ len key
    by_cases h0 : cap = 0
    · have hl0 : len = 0 := by omega
      subst hl0 h0
      obtain rfl : us = [] := List.length_eq_zero_iff.1 hul
      exact ⟨[], (by intro u hu; cases hu), .inl ⟨⟨_, rfl⟩, rfl⟩, .inl rfl⟩
    · obtain ⟨cs', hc, ht⟩ := hi 0 (by omega)
      obtain ⟨u, _, rfl⟩ := upd_of ht
      obtain ⟨_, _, hat⟩ := World.cells?_some hc
      have h1 := hat 0 (by omega)
      obtain ⟨b, off, spot⟩ := a
      have hspot : spot = none := by simpa [Addr.add] using World.cell?_spot h1
      subst hspot
      have hb : b < w.heap.size := by
        rcases Nat.lt_or_ge b w.heap.size with h' | h'
        · exact h'
        · simp [World.cell?, Addr.add, Array.getElem?_eq_none h'] at h1
      refine ⟨us, ?_, .inr ⟨b, off, cap, by rw [hul], hb, fun k hk => ?_⟩, .inr ⟨_, _, by rw [hx], by simp [hul]⟩⟩
      · intro u hu
        obtain ⟨i, hi', rfl⟩ := List.getElem_of_mem hu
        exact (hus i hi').1
      · have := (hus k hk).2
        have hg : us.getD k (0, 0) = us[k] := by simp [hk]
        rw [hg]
        rw [add_plain0, add_plain0] at this
        simpa only [Nat.add_assoc] using this
theorem reach_of {ts : List TypeId} {ds : List (DataW H)} {j : Nat} {t : TypeId} {d : DataW H} (hsz : (DataW.weightsEach Tryz.prog ts ds).all (· ≤ reachBytes) = true) (ht : ts[j]? = some t) (hd : ds[j]? = some d) {n : Nat} (hn : n ∈ d.weights Tryz.prog t) : n ≤ reachBytes := by
  have := List.all_eq_true.1 hsz _ (DataW.weights_mem_each ht hd n hn)
  simpa using this
end
end Go.Proofs.YtdenbmmbeeamcaaGreat

/- What a play of the later laws reads as. No condition. -/
namespace Go.Proofs.YtdenbmmbeeamcaaGreat
set_option linter.unusedVariables false
open Go.ChangeShapes Go.WideShapes Go.ChangeAt Go.RowKit Go.Deep

theorem own : ownKnob Tryz.prog.godebug = none := by kernel_rfl
theorem laidOut : laidOutB Tryz.prog = true := by kernel_rfl
section
variable {H : Type} {enc : TypeId × Value → H} {w : World} {held : Bool}
set_option maxRecDepth 100000 in
theorem cfgarg_of {r : Reach} {b0 : Nat} {v : Value} {d : DataW H} {p : List MemPlace} (hv : Value.okWide Tryz.prog w r b0 24 v) (h : DataW.Trod enc Tryz.prog w 0 (fun _ => true) held 24 v d p) :
    ∃ (x : Cfg), x.Raw ∧ v = .agg #[.int .i64 x.bits, .int .i64 x.rows, .int .i64 x.width, .int .i64 x.mode, .int .u64 x.seed] := by
  obtain ⟨cs, rfl, hsz⟩ := okWide_struct Tryz.underlying24 hv
  obtain ⟨fuel, hf⟩ := h
  obtain ⟨l⟩ := cs
  obtain ⟨x, hxr, hc⟩ := cfg_of hf
  have hc' : l = _ := hc
  subst hc'
  exact ⟨x, hxr, rfl⟩
set_option maxRecDepth 100000 in
theorem updarg_of {r : Reach} {b0 : Nat} {v : Value} {d : DataW H} {p : List MemPlace} (hv : Value.okWide Tryz.prog w r b0 60 v) (h : DataW.Trod enc Tryz.prog w 0 (fun _ => true) held 60 v d p) :
    ∃ (n m : Int), U64 n ∧ I64 m ∧ v = .agg #[.int .u64 n, .int .i64 m] := by
  obtain ⟨cs, rfl, hsz⟩ := okWide_struct Tryz.underlying60 hv
  obtain ⟨fuel, hf⟩ := h
  obtain ⟨l⟩ := cs
  obtain ⟨u, hu, hc⟩ := upd_of hf
  have hc' : l = _ := hc
  subst hc'
  exact ⟨u.1, u.2, hu.1, hu.2, rfl⟩
set_option maxRecDepth 100000 in
theorem play16_of {r : Reach} {b0 : Nat} {v : Value} {d : DataW H} {p : List MemPlace} (hv : Value.okWide Tryz.prog w r b0 58 v) (h : DataW.Trod enc Tryz.prog w 0 (fun _ => true) held 58 v d p) :
    ∃ (x : Cfg) (us : List (Int × Int)) (u : Value), x.Raw ∧ UpsOk us ∧ UpsAt w u us ∧ v = .agg #[.int .i64 x.bits, .int .i64 x.rows, .int .i64 x.width, .int .i64 x.mode, .int .u64 x.seed, u] ∧
      ∀ (ts : List TypeId) (ds : List (DataW H)) (j : Nat), (DataW.weightsEach Tryz.prog ts ds).all (· ≤ reachBytes) = true → ts[j]? = some 58 → ds[j]? = some d → us.length ≤ 140737488355328 := by
  obtain ⟨cs, rfl, hsz⟩ := okWide_struct Tryz.underlying58 hv
  obtain ⟨fuel, hf⟩ := h
  obtain ⟨l⟩ := cs
  obtain ⟨xs, n, _, hd, hl, hx, hg⟩ := DataW.trod_struct Tryz.underlying58 hf
  have hl' : l.length = 6 := hsz.trans (by kernel_rfl)
  match l, hl' with
  | [c0, c1, c2, c3, c4, c6], _ =>
    have hx' : xs.length = 2 := hx.trans (by kernel_rfl)
    match xs, hx' with
    | [x0, x2], _ =>
      have e0 : DataW.trod enc Tryz.prog w 0 (fun _ => true) held n 24 [c0, c1, c2, c3, c4] = some x0 := hg 0 _ rfl
      have e2 : DataW.trod enc Tryz.prog w 0 (fun _ => true) held n 56 [c6] = some x2 := hg 1 _ rfl
      obtain ⟨x, hxr, hc⟩ := cfg_of e0
      obtain ⟨us, hu, hat, hlen⟩ := ups_of e2
      simp only [List.cons.injEq, and_true] at hc
      obtain ⟨rfl, rfl, rfl, rfl, rfl⟩ := hc
      simp only [Prod.mk.injEq] at hd
      refine ⟨x, us, c6, hxr, hu, hat, rfl, fun ts ds j hs ht hj => ?_⟩
      rcases hlen with rfl | ⟨el, sp, hx2, hel⟩
      · simp
      · have hb : Tryz.prog.bytesOf 60 = 16 := by kernel_rfl
        have := reach_of hs ht hj (n := (el.length + sp.length) * Tryz.prog.bytesOf 60) (by
          rw [hd.1]
          simp [DataW.weights, DataW.weightsEach, hx2, Tryz.underlying58, Tryz.underlying56])
        rw [hb] at this
        simp only [reachBytes] at this
        omega
set_option maxRecDepth 100000 in
theorem play20_of {r : Reach} {b0 : Nat} {v : Value} {d : DataW H} {p : List MemPlace} (hv : Value.okWide Tryz.prog w r b0 128 v) (h : DataW.Trod enc Tryz.prog w 0 (fun _ => true) held 128 v d p) :
    ∃ (x : Cfg) (us : List (Int × Int)) (u : Value), x.Raw ∧ UpsOk us ∧ UpsAt w u us ∧ v = .agg #[.int .i64 x.bits, .int .i64 x.rows, .int .i64 x.width, .int .i64 x.mode, .int .u64 x.seed, u] ∧
      ∀ (ts : List TypeId) (ds : List (DataW H)) (j : Nat), (DataW.weightsEach Tryz.prog ts ds).all (· ≤ reachBytes) = true → ts[j]? = some 128 → ds[j]? = some d → us.length ≤ 140737488355328 := by
  obtain ⟨cs, rfl, hsz⟩ := okWide_struct Tryz.underlying128 hv
  obtain ⟨fuel, hf⟩ := h
  obtain ⟨l⟩ := cs
  obtain ⟨xs, n, _, hd, hl, hx, hg⟩ := DataW.trod_struct Tryz.underlying128 hf
  have hl' : l.length = 6 := hsz.trans (by kernel_rfl)
  match l, hl' with
  | [c0, c1, c2, c3, c4, c6], _ =>
    have hx' : xs.length = 2 := hx.trans (by kernel_rfl)
    match xs, hx' with
    | [x0, x2], _ =>
      have e0 : DataW.trod enc Tryz.prog w 0 (fun _ => true) held n 24 [c0, c1, c2, c3, c4] = some x0 := hg 0 _ rfl
      have e2 : DataW.trod enc Tryz.prog w 0 (fun _ => true) held n 56 [c6] = some x2 := hg 1 _ rfl
      obtain ⟨x, hxr, hc⟩ := cfg_of e0
      obtain ⟨us, hu, hat, hlen⟩ := ups_of e2
      simp only [List.cons.injEq, and_true] at hc
      obtain ⟨rfl, rfl, rfl, rfl, rfl⟩ := hc
      simp only [Prod.mk.injEq] at hd
      refine ⟨x, us, c6, hxr, hu, hat, rfl, fun ts ds j hs ht hj => ?_⟩
      rcases hlen with rfl | ⟨el, sp, hx2, hel⟩
      · simp
      · have hb : Tryz.prog.bytesOf 60 = 16 := by kernel_rfl
        have := reach_of hs ht hj (n := (el.length + sp.length) * Tryz.prog.bytesOf 60) (by
          rw [hd.1]
          simp [DataW.weights, DataW.weightsEach, hx2, Tryz.underlying128, Tryz.underlying56])
        rw [hb] at this
        simp only [reachBytes] at this
        omega
set_option maxRecDepth 100000 in
theorem play17_of {r : Reach} {b0 : Nat} {v : Value} {d : DataW H} {p : List MemPlace} (hv : Value.okWide Tryz.prog w r b0 69 v) (h : DataW.Trod enc Tryz.prog w 0 (fun _ => true) held 69 v d p) :
    ∃ (x : Cfg) (us : List (Int × Int)) (u : Value), x.Raw ∧ UpsOk us ∧ UpsAt w u us ∧ v = .agg #[.int .i64 x.bits, .int .i64 x.rows, .int .i64 x.width, .int .i64 x.mode, .int .u64 x.seed, u] ∧
      ∀ (ts : List TypeId) (ds : List (DataW H)) (j : Nat), (DataW.weightsEach Tryz.prog ts ds).all (· ≤ reachBytes) = true → ts[j]? = some 69 → ds[j]? = some d → us.length ≤ 140737488355328 := by
  obtain ⟨cs, rfl, hsz⟩ := okWide_struct Tryz.underlying69 hv
  obtain ⟨fuel, hf⟩ := h
  obtain ⟨l⟩ := cs
  obtain ⟨xs, n, _, hd, hl, hx, hg⟩ := DataW.trod_struct Tryz.underlying69 hf
  have hl' : l.length = 6 := hsz.trans (by kernel_rfl)
  match l, hl' with
  | [c0, c1, c2, c3, c4, c6], _ =>
    have hx' : xs.length = 2 := hx.trans (by kernel_rfl)
    match xs, hx' with
    | [x0, x2], _ =>
      have e0 : DataW.trod enc Tryz.prog w 0 (fun _ => true) held n 24 [c0, c1, c2, c3, c4] = some x0 := hg 0 _ rfl
      have e2 : DataW.trod enc Tryz.prog w 0 (fun _ => true) held n 56 [c6] = some x2 := hg 1 _ rfl
      obtain ⟨x, hxr, hc⟩ := cfg_of e0
      obtain ⟨us, hu, hat, hlen⟩ := ups_of e2
      simp only [List.cons.injEq, and_true] at hc
      obtain ⟨rfl, rfl, rfl, rfl, rfl⟩ := hc
      simp only [Prod.mk.injEq] at hd
      refine ⟨x, us, c6, hxr, hu, hat, rfl, fun ts ds j hs ht hj => ?_⟩
      rcases hlen with rfl | ⟨el, sp, hx2, hel⟩
      · simp
      · have hb : Tryz.prog.bytesOf 60 = 16 := by kernel_rfl
        have := reach_of hs ht hj (n := (el.length + sp.length) * Tryz.prog.bytesOf 60) (by
          rw [hd.1]
          simp [DataW.weights, DataW.weightsEach, hx2, Tryz.underlying69, Tryz.underlying56])
        rw [hb] at this
        simp only [reachBytes] at this
        omega
end
end Go.Proofs.YtdenbmmbeeamcaaGreat
