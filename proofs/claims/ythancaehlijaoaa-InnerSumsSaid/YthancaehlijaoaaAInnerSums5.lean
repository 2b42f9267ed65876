/- inner.Inner: the least product of two rows. -/
import Derived.Test.YthancaehlijaoaaAInnerSums4
import Derived.Laws.OwnMore

/- inner.Inner: the least product of two rows. -/
namespace Go.Proofs.Ythancaehlijaoaa
set_option linter.unusedVariables false
open Go.RowKit

def zw : Value := .agg #[.int .i64 0, .int .u64 0]
theorem Dot_no (p1 p2 : Option Addr) (n1 c1 n2 c2 : Nat) (w : World) (hn : n1 ≠ n2) (h1 : n1 ≤ 1152921504606846976) (h2 : n2 ≤ 1152921504606846976) :
    Calls Try.prog 31 #[.slice p1 n1 c1, .slice p2 n2 c2] w fun e w' => e = .returned (.tuple #[.agg #[.int .i64 0, .int .u64 0], .bool false]) ∧ Ext w w' := by
  have hne : ((n1 : Int) != (n2 : Int)) = true := by simp; omega
  go_enter Try.func31, Try.ntmps31
  go_wp2_with fail
  refine bodyPost_ret (v := .tuple #[.agg #[.int .i64 0, .int .u64 0], .bool false]) (by simp [results, Try.results31, go_sem]) rfl ⟨rfl, by (repeat' (first | exact Ext.refl _ | assumption | apply Ext.allocR | apply Ext.drewR | apply Ext.drewNR | (refine Ext.trans' ?_ (by assumption))))⟩
def rowP (l : List Int) (W r : Nat) : List Int := (List.range W).map fun k => l.getD (r * W + k) 0
theorem rowP_len (l : List Int) (W r : Nat) : (rowP l W r).length = W := by simp [rowP]
theorem rowP_get (l : List Int) {W r k : Nat} (h : k < W) : (rowP l W r).getD k 0 = l.getD (r * W + k) 0 := by simp [rowP, h]
theorem rowP_all {l : List Int} (h : allI l) (W r : Nat) : ∀ x ∈ rowP l W r, I64 x := by
  intro x hx
  simp only [rowP, List.mem_map, List.mem_range] at hx
  obtain ⟨k, _, rfl⟩ := hx
  exact getD_i64 h _
/-- The least of the products of the first r rows, if each fits. -/
def innF (l m : List Int) (W : Nat) : Nat → Option Int
  | 0 => some 0
  | r + 1 => (innF l m W r).bind fun best => (dotF (rowP l W r) (rowP m W r) W).bind fun n => some (bif decide (r = 0) || decide (n < best) then n else best)
theorem innF_w {l m : List Int} {W : Nat} : ∀ {r : Nat} {s : Int}, innF l m W r = some s → W128 s := by
  intro r
  induction r with
  | zero => intro s h; cases h; unfold W128; omega
  | succ r ih =>
    intro s h
    simp only [innF] at h
    cases hb : innF l m W r with
    | none => rw [hb] at h; cases h
    | some best =>
      cases hd : dotF (rowP l W r) (rowP m W r) W with
      | none => rw [hb, hd] at h; cases h
      | some n =>
        rw [hb, hd] at h
        simp only [Option.bind_some] at h
        cases hc : (decide (r = 0) || decide (n < best)) with
        | false => rw [hc] at h; cases h; exact ih hb
        | true => rw [hc] at h; cases h; exact dotF_w hd
theorem innF_none {l m : List Int} {W r : Nat} (h : innF l m W r = none) : ∀ {n : Nat}, r ≤ n → innF l m W n = none := by
  intro n hn
  induction n with
  | zero => obtain rfl : r = 0 := by omega
            exact h
  | succ n ih =>
    rcases Nat.lt_or_ge n r with h1 | h1
    · obtain rfl : r = n + 1 := by omega
      exact h
    · simp only [innF, ih h1, Option.bind_none]
def innV : Option Int → Value
  | some s => .tuple #[.agg #[.int .i64 (hi s), .int .u64 (lo s)], .int .i64 0]
  | none => .tuple #[.agg #[.int .i64 0, .int .u64 0], .int .i64 4]
theorem Inner_nil1 (p : Option Addr) (w : World) :
    Calls Try.prog 37 #[.pointer none, .pointer p] w fun e w' => e = .returned (.tuple #[.agg #[.int .i64 0, .int .u64 0], .int .i64 5]) ∧ Ext w w' := by
  go_enter Try.func37, Try.ntmps37
  go_wp2_with fail
  refine bodyPost_ret (v := .tuple #[.agg #[.int .i64 0, .int .u64 0], .int .i64 5]) (by simp [results, Try.results37, go_sem]) rfl ⟨rfl, by (repeat' (first | exact Ext.refl _ | assumption | apply Ext.allocR | apply Ext.drewR | apply Ext.drewNR | (refine Ext.trans' ?_ (by assumption))))⟩
theorem Inner_nil2 (s : Nat) (w : World) :
    Calls Try.prog 37 #[.pointer (some ⟨s, 0, none⟩), .pointer none] w fun e w' => e = .returned (.tuple #[.agg #[.int .i64 0, .int .u64 0], .int .i64 5]) ∧ Ext w w' := by
  go_enter Try.func37, Try.ntmps37
  go_wp2_with fail
  refine bodyPost_ret (v := .tuple #[.agg #[.int .i64 0, .int .u64 0], .int .i64 5]) (by simp [results, Try.results37, go_sem]) rfl ⟨rfl, by (repeat' (first | exact Ext.refl _ | assumption | apply Ext.allocR | apply Ext.drewR | apply Ext.drewNR | (refine Ext.trans' ?_ (by assumption))))⟩
theorem zbox {w0 wx : World} {b : Nat} (h : w0.heap[b]? = some (.cells #[.int .i64 0, .int .u64 0] 56 (0, 0))) (hE : Ext w0 wx) :
    wx.cell? ⟨b, 0, none⟩ = some (.int .i64 0) ∧ wx.cell? ⟨b, 1, none⟩ = some (.int .u64 0) ∧ wx.frozen? ⟨b, 0, none⟩ = false ∧ wx.frozen? ⟨b, 1, none⟩ = false ∧ b < wx.heap.size :=
  have h' := hE.keep h
  ⟨(cell_of h' 0).trans rfl, (cell_of h' 1).trans rfl, frozen_of h' 0, frozen_of h' 1, lt_of h'⟩
set_option maxRecDepth 20000 in
set_option maxHeartbeats 4000000 in
theorem Inner_unlike (s b c s2 b2 c2 : Nat) (C C2 : Cfg) (lv lv2 : Int) (R W R2 W2 : Nat) (l l2 : List Int) (w : World) (h : SAt w s b c C lv R W l) (h2 : SAt w s2 b2 c2 C2 lv2 R2 W2 l2) (hp : PartsAt C lv C2 lv2) :
    Calls Try.prog 37 #[.pointer (some ⟨s, 0, none⟩), .pointer (some ⟨s2, 0, none⟩)] w fun e w' => e = .returned (.tuple #[.agg #[.int .i64 0, .int .u64 0], .int .i64 5]) ∧ Ext w w' := by
  have H := Lib.hid h
  have H2 := Lib.hid h2
  clear h h2
  go_enter Try.func37, Try.ntmps37
  go_upto_region 1 with (fail)
  have hz0 := heap_at w (.cells #[.int .i64 0, .int .u64 0] 56) rfl
  have hE0 : Ext w (w.alloc (.cells #[.int .i64 0, .int .u64 0] 56)) := Ext.alloc' _ _
  generalize w.alloc (.cells #[.int .i64 0, .int .u64 0] 56) = w0 at *
  have HZ0 := Lib.hid hz0
  clear hz0
  go_cut [34] (fun s34 wx => s34 = .bool true ∧ Ext w0 wx)
  case first =>
    cases hp
    all_goals
      go_wp2_with (first | (go_at_call 52; refine (SConfig_c s b c C lv R W l _ (H.out.ext (by (repeat' (first | exact Ext.refl _ | assumption | apply Ext.allocR | apply Ext.drewR | apply Ext.drewNR | (refine Ext.trans' ?_ (by assumption))))))).mono ?_; rintro e w1 ⟨rfl, hb1⟩) | (go_at_call 52; refine (SConfig_c s2 b2 c2 C2 lv2 R2 W2 l2 _ (H2.out.ext (by (repeat' (first | exact Ext.refl _ | assumption | apply Ext.allocR | apply Ext.drewR | apply Ext.drewNR | (refine Ext.trans' ?_ (by assumption))))))).mono ?_; rintro e w2 ⟨rfl, hb2⟩) | (go_at_call 53; refine (SLevel_c s b c C lv R W l _ (H.out.ext (by (repeat' (first | exact Ext.refl _ | assumption | apply Ext.allocR | apply Ext.drewR | apply Ext.drewNR | (refine Ext.trans' ?_ (by assumption))))))).mono ?_; rintro e w3 ⟨rfl, rfl⟩) | (go_at_call 53; refine (SLevel_c s2 b2 c2 C2 lv2 R2 W2 l2 _ (H2.out.ext (by (repeat' (first | exact Ext.refl _ | assumption | apply Ext.allocR | apply Ext.drewR | apply Ext.drewNR | (refine Ext.trans' ?_ (by assumption))))))).mono ?_; rintro e w4 ⟨rfl, rfl⟩))
      go_meet
      exact ⟨by first | rfl | simp [bne, *], by (repeat' (first | exact Ext.refl _ | assumption | apply Ext.allocR | apply Ext.drewR | apply Ext.drewNR | (refine Ext.trans' ?_ (by assumption))))⟩
  case rest =>
    obtain ⟨rfl, hEc⟩ := hcut
    obtain ⟨p0, p1, f0, f1, hl⟩ := zbox HZ0.out hEc
    go_wp2_with fail
    refine bodyPost_ret (v := .tuple #[.agg #[.int .i64 0, .int .u64 0], .int .i64 5]) (by simp [results, Try.results37, go_sem, *]) rfl ⟨rfl, ?_⟩
    exact ((hE0.trans' hEc).setR (Nat.le_refl _) _).setR (Nat.le_refl _) _
set_option maxRecDepth 20000 in
set_option maxHeartbeats 4000000 in
theorem Inner_mode (s b c s2 b2 c2 : Nat) (C : Cfg) (lv : Int) (R W : Nat) (l l2 : List Int) (w : World) (h : SAt w s b c C lv R W l) (h2 : SAt w s2 b2 c2 C lv R W l2) (hm : C.mode ≠ 1) :
    Calls Try.prog 37 #[.pointer (some ⟨s, 0, none⟩), .pointer (some ⟨s2, 0, none⟩)] w fun e w' => e = .returned (.tuple #[.agg #[.int .i64 0, .int .u64 0], .int .i64 3]) ∧ Ext w w' := by
  have H := Lib.hid h
  have H2 := Lib.hid h2
  have hm' : (C.mode != 1) = true := by simpa using hm
  clear h h2 hm
  go_enter Try.func37, Try.ntmps37
  go_upto_region 1 with (fail)
  have hz0 := heap_at w (.cells #[.int .i64 0, .int .u64 0] 56) rfl
  have hE0 : Ext w (w.alloc (.cells #[.int .i64 0, .int .u64 0] 56)) := Ext.alloc' _ _
  generalize w.alloc (.cells #[.int .i64 0, .int .u64 0] 56) = w0 at *
  have HZ0 := Lib.hid hz0
  clear hz0
  go_cut [34] (fun s34 wx => s34 = .bool false ∧ Ext w0 wx)
  case first =>
    go_wp2_with (first | (go_at_call 52; refine (SConfig_c s b c C lv R W l _ (H.out.ext (by (repeat' (first | exact Ext.refl _ | assumption | apply Ext.allocR | apply Ext.drewR | apply Ext.drewNR | (refine Ext.trans' ?_ (by assumption))))))).mono ?_; rintro e w1 ⟨rfl, hb1⟩) | (go_at_call 52; refine (SConfig_c s2 b2 c2 C lv R W l2 _ (H2.out.ext (by (repeat' (first | exact Ext.refl _ | assumption | apply Ext.allocR | apply Ext.drewR | apply Ext.drewNR | (refine Ext.trans' ?_ (by assumption))))))).mono ?_; rintro e w2 ⟨rfl, hb2⟩) | (go_at_call 53; refine (SLevel_c s b c C lv R W l _ (H.out.ext (by (repeat' (first | exact Ext.refl _ | assumption | apply Ext.allocR | apply Ext.drewR | apply Ext.drewNR | (refine Ext.trans' ?_ (by assumption))))))).mono ?_; rintro e w3 ⟨rfl, rfl⟩) | (go_at_call 53; refine (SLevel_c s2 b2 c2 C lv R W l2 _ (H2.out.ext (by (repeat' (first | exact Ext.refl _ | assumption | apply Ext.allocR | apply Ext.drewR | apply Ext.drewNR | (refine Ext.trans' ?_ (by assumption))))))).mono ?_; rintro e w4 ⟨rfl, rfl⟩))
    go_meet
    exact ⟨by first | rfl | simp, by (repeat' (first | exact Ext.refl _ | assumption | apply Ext.allocR | apply Ext.drewR | apply Ext.drewNR | (refine Ext.trans' ?_ (by assumption))))⟩
  case rest =>
    obtain ⟨rfl, hEc⟩ := hcut
    go_wp2_with fail
    refine Calls.mono (SConfig_c s b c C lv R W l _ (H.out.ext ?hx)) ?_
    case hx => (repeat' (first | exact Ext.refl _ | assumption | apply Ext.allocR | apply Ext.drewR | apply Ext.drewNR | (refine Ext.trans' ?_ (by assumption))))
    rintro e w1 ⟨rfl, hb1⟩
    have hE1 : Ext w0 w1 := by (repeat' (first | exact Ext.refl _ | assumption | apply Ext.allocR | apply Ext.drewR | apply Ext.drewNR | (refine Ext.trans' ?_ (by assumption))))
    obtain ⟨p0, p1, f0, f1, hl⟩ := zbox HZ0.out hE1
    go_wp2_with fail
    refine bodyPost_ret (v := .tuple #[.agg #[.int .i64 0, .int .u64 0], .int .i64 3]) (by simp [results, Try.results37, go_sem, *]) rfl ⟨rfl, ?_⟩
    exact (((hE0.trans' hE1).setR (p := ⟨w.heap.size, 0, none⟩) (Nat.le_refl _) _).setR (p := ⟨w.heap.size, 1, none⟩) (Nat.le_refl _) _).allocR _
end Go.Proofs.Ythancaehlijaoaa

/- inner.Inner of two sketches of one config in the mode Linear: the least product of two rows. -/
namespace Go.Proofs.Ythancaehlijaoaa
set_option linter.unusedVariables false
open Go.RowKit

set_option maxRecDepth 20000 in
set_option maxHeartbeats 8000000 in
theorem Inner_c (s b c s2 b2 c2 : Nat) (C : Cfg) (lv : Int) (R W : Nat) (l m : List Int) (w : World) (h : SAt w s b c C lv R W l) (h2 : SAt w s2 b2 c2 C lv R W m) (hm : C.mode = 1) :
    Calls Try.prog 37 #[.pointer (some ⟨s, 0, none⟩), .pointer (some ⟨s2, 0, none⟩)] w fun e w' => e = .returned (innV (innF l m W R)) ∧ Ext w w' := by
  have H := Lib.hid h
  have H2 := Lib.hid h2
  have hm' : (C.mode != 1) = false := by simp [hm]
  have hR := h.hr
  have hW := h.hw
  have hR1 := h.g.r1
  have hR8 := h.g.r2
  have hW1 := h.g.w1
  have hW8 := h.g.w2
  have HR := Lib.hid hR
  have HW := Lib.hid hW
  have HL := Lib.hid h.g.len
  have HL2 := Lib.hid h2.g.len
  have HI := Lib.hid h.fit
  have HI2 := Lib.hid h2.fit
  clear h h2 hm hR hW
  go_enter Try.func37, Try.ntmps37
  go_upto_region 1 with (fail)
  have hz0 := heap_at w (.cells #[.int .i64 0, .int .u64 0] 56) rfl
  have hE0 : Ext w (w.alloc (.cells #[.int .i64 0, .int .u64 0] 56)) := Ext.alloc' _ _
  generalize w.alloc (.cells #[.int .i64 0, .int .u64 0] 56) = w0 at *
  have HZ0 := Lib.hid hz0
  clear hz0
  go_cut [34] (fun s34 wx => s34 = .bool false ∧ Ext w0 wx)
  case first =>
    go_wp2_with (first | (go_at_call 52; refine (SConfig_c s b c C lv R W l _ (H.out.ext (by (repeat' (first | exact Ext.refl _ | assumption | apply Ext.allocR | apply Ext.drewR | apply Ext.drewNR | (refine Ext.trans' ?_ (by assumption))))))).mono ?_; rintro e w1 ⟨rfl, hb1⟩) | (go_at_call 52; refine (SConfig_c s2 b2 c2 C lv R W m _ (H2.out.ext (by (repeat' (first | exact Ext.refl _ | assumption | apply Ext.allocR | apply Ext.drewR | apply Ext.drewNR | (refine Ext.trans' ?_ (by assumption))))))).mono ?_; rintro e w2 ⟨rfl, hb2⟩) | (go_at_call 53; refine (SLevel_c s b c C lv R W l _ (H.out.ext (by (repeat' (first | exact Ext.refl _ | assumption | apply Ext.allocR | apply Ext.drewR | apply Ext.drewNR | (refine Ext.trans' ?_ (by assumption))))))).mono ?_; rintro e w3 ⟨rfl, rfl⟩) | (go_at_call 53; refine (SLevel_c s2 b2 c2 C lv R W m _ (H2.out.ext (by (repeat' (first | exact Ext.refl _ | assumption | apply Ext.allocR | apply Ext.drewR | apply Ext.drewNR | (refine Ext.trans' ?_ (by assumption))))))).mono ?_; rintro e w4 ⟨rfl, rfl⟩))
    go_meet
    exact ⟨by first | rfl | simp, by (repeat' (first | exact Ext.refl _ | assumption | apply Ext.allocR | apply Ext.drewR | apply Ext.drewNR | (refine Ext.trans' ?_ (by assumption))))⟩
  case rest =>
    obtain ⟨rfl, hEc⟩ := hcut
    go_wp2_with fail
    refine Calls.mono (SConfig_c s b c C lv R W l _ (H.out.ext ?hx)) ?_
    case hx => (repeat' (first | exact Ext.refl _ | assumption | apply Ext.allocR | apply Ext.drewR | apply Ext.drewNR | (refine Ext.trans' ?_ (by assumption))))
    rintro e w1 ⟨rfl, hb1⟩
    have hE1 : Ext w0 w1 := by (repeat' (first | exact Ext.refl _ | assumption | apply Ext.allocR | apply Ext.drewR | apply Ext.drewNR | (refine Ext.trans' ?_ (by assumption))))
    have hCb : CfgAt (w1.alloc (.cells #[.int .i64 C.bits, .int .i64 C.rows, .int .i64 C.width, .int .i64 C.mode, .int .u64 C.seed] 24)) w1.heap.size C := CfgAt.box C _ rfl
    have hEB : Ext w1 (w1.alloc (.cells #[.int .i64 C.bits, .int .i64 C.rows, .int .i64 C.width, .int .i64 C.mode, .int .u64 C.seed] 24)) := Ext.alloc' _ _
    clear hb1 hEc
    go_wp2_with fail
    generalize w1.alloc (.cells #[.int .i64 C.bits, .int .i64 C.rows, .int .i64 C.width, .int .i64 C.mode, .int .u64 C.seed] 24) = w2 at *
    have hE2 := hE1.trans' hEB
    refine Calls.mono (SCells_c s b c C lv R W l _ (H.out.ext (by (repeat' (first | exact Ext.refl _ | assumption | apply Ext.allocR | apply Ext.drewR | apply Ext.drewNR | (refine Ext.trans' ?_ (by assumption))))))) ?_
    rintro e w3 ⟨v3, rfl, ho3, _, hx3⟩
    have hE3 : Ext w2 w3 := hx3
    have hi3 := IntsAt.of_row ho3
    obtain ⟨g1, o1, k1, rfl, hg1, hc1⟩ := hi3.slice (by rw [HL.out]; exact Nat.mul_pos hR1 hW1)
    obtain ⟨cp1, hcp1⟩ : ∃ c1, R * W ≤ k1 := ⟨0, by
      have h2 := ho3.2.resolve_left (fun h => by cases h.1)
      obtain ⟨g', cap', cur, hv', _, _, hc', _⟩ := h2
      have := (Value.slice.inj hv').2.2
      rw [HL.out] at hc'
      omega⟩
    rw [HL.out] at hi3 hc1 ⊢
    have HC1 := Lib.hid hc1
    clear ho3 hx3 hi3 hc1
    go_wp2_with fail
    refine Calls.mono (SCells_c s2 b2 c2 C lv R W m _ (H2.out.ext (by (repeat' (first | exact Ext.refl _ | assumption | apply Ext.allocR | apply Ext.drewR | apply Ext.drewNR | (refine Ext.trans' ?_ (by assumption))))))) ?_
    rintro e w4 ⟨v4, rfl, ho4, _, hx4⟩
    have hE4 : Ext w3 w4 := hx4
    have hi4 := IntsAt.of_row ho4
    obtain ⟨g2, o2, k2, rfl, hg2, hc2⟩ := hi4.slice (by rw [HL2.out]; exact Nat.mul_pos hR1 hW1)
    obtain ⟨cp2, hcp2⟩ : ∃ c1, R * W ≤ k2 := ⟨0, by
      have h2 := ho4.2.resolve_left (fun h => by cases h.1)
      obtain ⟨g', cap', cur, hv', _, _, hc', _⟩ := h2
      have := (Value.slice.inj hv').2.2
      rw [HL2.out] at hc'
      omega⟩
    rw [HL2.out] at hi4 hc2 ⊢
    have HC2 := Lib.hid hc2
    have hCb4 := hCb.ext (hE3.trans' hE4)
    have c1' := hCb4.c1
    have cl := hCb4.lt
    rw [HR.out] at c1'
    clear ho4 hx4 hi4 hc2
    have hE24 := hE3.trans' hE4
    have hEw4 : Ext w w4 := hE0.trans' (hE2.trans' hE24)
    have hz4 := (hE2.trans' hE24).keep HZ0.out
    have HZ4 := Lib.hid hz4
    have hg13 : g1 < w4.heap.size := Nat.lt_of_lt_of_le hg1 hE4.size
    have hc14 : ∀ j, j < R * W → w4.cell? ⟨g1, o1 + j, none⟩ = some (.int .i64 (l.getD j 0)) := fun j hj => ((bcell hE4).1 g1 _ hg1).trans (HC1.out j hj)
    have HC14 := Lib.hid hc14
    have HCB4 := Lib.hid hCb4
    have hN2 : R * W ≤ 1024 := Nat.le_trans (Nat.mul_le_mul hR8 hW8) (by decide)
    clear hz4 hc14 hCb4 hCb hE24 hE3 hE4 hE2 hE1 hEB HZ0 HC1 H H2
    go_wp2_with fail
    go_loopw [48] (fun u wr => ∃ (r : Nat) (best : Int), r ≤ R ∧ u = .int .i64 r ∧ innF l m W r = some best ∧ Ext w4 wr ∧ wr.heap[w4.heap.size]? = some (.cells #[.int .i64 (hi best), .int .u64 (lo best)] 56 (0, 0))) (fun u _ => R - (intOf u).toNat)
    case atStart => exact ⟨0, 0, Nat.zero_le _, rfl, rfl, Ext.alloc' _ _, heap_at _ _ rfl⟩
    case round =>
      obtain ⟨r, best, hr, rfl, hin, hE, hg9⟩ := hrel
      clear c1' cl
      by_cases hgo : r < R
      · have hCr := HCB4.out.ext hE
        have c2' := hCr.c2
        have cl := hCr.lt
        rw [HW.out] at c2'
        obtain ⟨f, hf⟩ : ∃ f, r * W = f := ⟨_, rfl⟩
        have hf1 : (r : Int) * (W : Int) = (f : Int) := by rw [← hf]; simp
        have hf2 : ((r : Int) + 1) * (W : Int) = ((f + W : Nat) : Int) := by rw [Int.add_mul, hf1]; simp
        have hfN : f + W ≤ R * W := by rw [← hf, ← Nat.succ_mul]; exact Nat.mul_le_mul_right _ hgo
        have hf1b : f + W ≤ 1024 := by omega
        have HIN := Lib.hid hin
        have HG9 := Lib.hid hg9
        have HFF := Lib.hid hf
        clear hin hg9 hCr hf
        go_wp2_with fail
        refine wp_region_after (by kernel_rfl) (by kernel_rfl) ?_
        repeat (go_big_quiet_step (fail))
        refine wpQuiet_nil ?_
        rintro _ ⟨xx, rfl⟩
        obtain ⟨wq, hq⟩ := xx
        try dsimp only
        obtain ⟨dt, hdt⟩ : ∃ dt, dotF (rowP l W r) (rowP m W r) W = dt := ⟨_, rfl⟩
        obtain ⟨rh, rl, ok, hdv, hok1, hok0⟩ : ∃ (rh rl : Int) (ok : Bool), dotV dt = .tuple #[.agg #[.int .i64 rh, .int .u64 rl], .bool ok] ∧ (ok = true → ∃ n, dt = some n ∧ rh = hi n ∧ rl = lo n) ∧ (ok = false → dt = none) := by
          cases dt with
          | none => exact ⟨0, 0, false, rfl, (fun h => by cases h), (fun _ => rfl)⟩
          | some n => exact ⟨hi n, lo n, true, rfl, (fun _ => ⟨n, rfl, rfl, rfl⟩), (fun h => by cases h)⟩
        have hEq : Ext w4 wq := hE.trans' hq
        have hi1 : ∀ (cc : Nat) (w' : World), Ext w4 w' → IntsAt w' (.slice (some ⟨g1, o1 + f, none⟩) W cc) (rowP l W r) := fun cc w' hE' => .inr ⟨g1, o1 + f, cc, by rw [rowP_len], Nat.lt_of_lt_of_le hg13 hE'.size, fun k hk => by
          rw [rowP_len] at hk
          rw [rowP_get _ hk, HFF.out, Nat.add_assoc]
          exact ((bcell hE').1 g1 _ hg13).trans (HC14.out (f + k) (by omega))⟩
        have hi2 : ∀ (cc : Nat) (w' : World), Ext w4 w' → IntsAt w' (.slice (some ⟨g2, o2 + f, none⟩) W cc) (rowP m W r) := fun cc w' hE' => .inr ⟨g2, o2 + f, cc, by rw [rowP_len], Nat.lt_of_lt_of_le hg2 hE'.size, fun k hk => by
          rw [rowP_len] at hk
          rw [rowP_get _ hk, HFF.out, Nat.add_assoc]
          exact ((bcell hE').1 g2 _ hg2).trans (HC2.out (f + k) (by omega))⟩
        have hdot : ∀ (cc cc2 : Nat) (w' : World), Ext w4 w' → Calls Try.prog 31 #[.slice (some ⟨g1, o1 + f, none⟩) W cc, .slice (some ⟨g2, o2 + f, none⟩) W cc2] w' fun e w'' => e = .returned (.tuple #[.agg #[.int .i64 rh, .int .u64 rl], .bool ok]) ∧ Ext w' w'' := by
          intro cc cc2 w' hE'
          have := Dot_c (rowP l W r) (rowP m W r) _ _ w' (rowP_all HI.out W r) (rowP_all HI2.out W r) (by rw [rowP_len, rowP_len]) (by rw [rowP_len]; omega) (hi1 cc w' hE') (hi2 cc2 w' hE')
          rw [rowP_len, hdt, hdv] at this
          exact this
        have HDOT := Lib.hid hdot
        have HDT := Lib.hid hdt
        have HOK1 := Lib.hid hok1
        have HOK0 := Lib.hid hok0
        clear hi1 hi2 hdot hdv hok1 hok0 hdt c2' cl hf1 hf2
        go_upto_region 12 with (fail)
        go_cut [13, 14] (fun s13 s14 wx => ∃ z : Nat, s13 = .pointer (some ⟨z, 0, none⟩) ∧ s14 = .bool ok ∧ wx.heap[z]? = some (.cells #[.int .i64 rh, .int .u64 rl] 56 (0, 0)) ∧ Ext wq wx ∧ wq.heap.size ≤ z)
        case first =>
          have hC0 := af_drew wq
          refine pi_start (fun w' => ∃ x : After wq, w' = x.w) [] (by kernel_rfl) ?_
          refine pi_t 0 rfl (by kernel_rfl) (by kernel_rfl) (fun _ _ _ _ h => h) (fun K hK => ?_)
          go_big_quiet_op
          refine hK _ ?_
          clear hK K
          refine pi_t 1 rfl (by kernel_rfl) (by kernel_rfl) (fun _ _ _ _ h => h) (fun K hK => ?_)
          go_big_quiet_op
          refine hK _ ?_
          clear hK K
          refine pi_t 2 rfl (by kernel_rfl) (by kernel_rfl) (fun _ _ _ _ h => h) (fun K hK => ?_)
          go_big_quiet_op
          refine hK _ ?_
          clear hK K
          refine pi_t 3 rfl (by kernel_rfl) (by kernel_rfl) (fun _ _ _ _ h => h) (fun K hK => ?_)
          go_big_quiet_op
          refine hK _ ?_
          clear hK K
          refine pi_t 4 rfl (by kernel_rfl) (by kernel_rfl) (fun _ _ _ _ h => h) (fun K hK => ?_)
          go_big_quiet_op
          refine hK _ ?_
          clear hK K
          refine pi_t 5 rfl (by kernel_rfl) (by kernel_rfl) (fun _ _ _ _ h => h) (fun K hK => ?_)
          go_big_quiet_op
          refine hK _ ?_
          clear hK K
          refine pi_t 6 rfl (by kernel_rfl) (by kernel_rfl) (fun _ _ _ _ h => h) (fun K hK => ?_)
          go_big_quiet_op
          refine hK _ ?_
          clear hK K
          refine pi_t 7 rfl (by kernel_rfl) (by kernel_rfl) (fun _ _ _ _ h => h) (fun K hK => ?_)
          go_big_quiet_op
          refine hK _ ?_
          clear hK K
          refine pi_t 8 rfl (by kernel_rfl) (by kernel_rfl) (fun _ _ _ _ h => h) (fun K hK => ?_)
          go_big_quiet_op
          refine hK _ ?_
          clear hK K
          refine pi_t 9 rfl (by kernel_rfl) (by kernel_rfl) (fun _ _ _ _ h => h) (fun K hK => ?_)
          go_big_quiet_op
          refine hK _ ?_
          clear hK K
          refine pi_b 10 14 rfl rfl (by kernel_rfl) (fun K hK => ?_) (fun K hK => ?_)
          · rw [Nat.add_sub_cancel_left]
            go_wp2_with (go_at_call 31; refine (HDOT.out _ _ _ (hEq.trans' (by (repeat' (first | exact Ext.refl _ | assumption | apply Ext.allocR | apply Ext.drewR | apply Ext.drewNR | (refine Ext.trans' ?_ (by assumption))))))).mono ?_; rintro e wa ⟨rfl, hxa⟩)
            refine hK _ _ (fun _ h => af_step h hxa) ?_
            clear hK K
            have hEa : Ext wq wa := Ext.trans' (Below.drew (Ext.refl wq)) hxa
            refine pi_t 11 rfl (by kernel_rfl) (by kernel_rfl) (fun _ _ _ _ h => h) (fun K hK => ?_)
            go_big_quiet_op
            refine hK _ ?_
            clear hK K
            refine pi_t 12 rfl (by kernel_rfl) (by kernel_rfl) (fun _ _ _ _ h => h) (fun K hK => ?_)
            go_big_quiet_op
            refine hK _ ?_
            clear hK K
            refine pi_t 13 rfl (by kernel_rfl) (by kernel_rfl) (fun _ _ _ _ h => h) (fun K hK => ?_)
            go_big_quiet_op
            refine hK _ ?_
            clear hK K
            refine pi_l 14 rfl (by kernel_rfl) (fun K hK => ?_)
            go_wp2
            refine hK _ _ (fun _ h => af_step h (Ext.alloc' _ _)) ?_
            clear hK K
            refine pi_l 15 rfl (by kernel_rfl) (fun K hK => ?_)
            go_wp2
            have hsz := hEa.size
            refine hK _ _ (fun _ h => ⟨⟨_, hEa.allocR _⟩, rfl⟩) ?_
            clear hK K
            refine pi_t 16 rfl (by kernel_rfl) (by kernel_rfl) (fun _ _ _ _ h => h) (fun K hK => ?_)
            go_big_quiet_op
            refine hK _ ?_
            clear hK K
            refine pi_end (by kernel_rfl) ?_
            go_wp2_with fail
            go_meet
            exact ⟨_, rfl, rfl, heap_at _ _ rfl, hEa.allocR _, hsz⟩
          · go_wp2
            refine hK _ _ (fun _ h => af_step h (Ext.alloc' _ _)) ?_
            clear hK K
            refine pi_l 10 rfl (by kernel_rfl) (fun K hK => ?_)
            rw [Nat.add_sub_cancel_left]
            go_wp2_with (go_at_call 31; refine (HDOT.out _ _ _ (hEq.trans' (by (repeat' (first | exact Ext.refl _ | assumption | apply Ext.allocR | apply Ext.drewR | apply Ext.drewNR | (refine Ext.trans' ?_ (by assumption))))))).mono ?_; rintro e wa ⟨rfl, hxa⟩)
            refine hK _ _ (fun _ h => af_step h hxa) ?_
            clear hK K
            have hEa : Ext wq wa := Ext.trans' (Ext.alloc' wq _) (Ext.trans' (Below.drew (Ext.refl _)) hxa)
            have hbx : wa.heap[wq.heap.size]? = some (.cells #[.int .i64 0, .int .u64 0] 56 (0, 0)) := hxa.keep (heap_at wq.drew _ rfl)
            have p0 := (cell_of hbx 0).trans rfl
            have p1 := (cell_of hbx 1).trans rfl
            have f0 := frozen_of hbx 0
            have f1 := frozen_of hbx 1
            have HBX := Lib.hid hbx
            clear hbx
            refine pi_t 11 rfl (by kernel_rfl) (by kernel_rfl) (fun _ _ _ _ h => h) (fun K hK => ?_)
            go_big_quiet_op
            refine hK _ ?_
            clear hK K
            refine pi_t 12 rfl (by kernel_rfl) (by kernel_rfl) (fun _ _ _ _ h => h) (fun K hK => ?_)
            go_big_quiet_op
            refine hK _ ?_
            clear hK K
            refine pi_t 13 rfl (by kernel_rfl) (by kernel_rfl) (fun _ _ _ _ h => h) (fun K hK => ?_)
            go_big_quiet_op
            refine hK _ ?_
            clear hK K
            refine pi_l 15 rfl (by kernel_rfl) (fun K hK => ?_)
            go_wp2
            refine hK _ _ (fun _ h => ⟨⟨_, (hEa.setR (p := ⟨wq.heap.size, 0, none⟩) (Nat.le_refl _) _).setR (p := ⟨wq.heap.size, 1, none⟩) (Nat.le_refl _) _⟩, rfl⟩) ?_
            clear hK K
            refine pi_t 16 rfl (by kernel_rfl) (by kernel_rfl) (fun _ _ _ _ h => h) (fun K hK => ?_)
            go_big_quiet_op
            refine hK _ ?_
            clear hK K
            refine pi_end (by kernel_rfl) ?_
            go_wp2_with fail
            go_meet
            exact ⟨_, rfl, rfl, set2 HBX.out _ _, (hEa.setR (p := ⟨wq.heap.size, 0, none⟩) (Nat.le_refl _) _).setR (p := ⟨wq.heap.size, 1, none⟩) (Nat.le_refl _) _, Nat.le_refl _⟩
        case rest =>
          obtain ⟨z, rfl, rfl, hz, hEc, hzz⟩ := hcut
          have hEx := hEq.trans' hEc
          have y0 := (cell_of hz 0).trans rfl
          have y1 := (cell_of hz 1).trans rfl
          have zl := lt_of hz
          have hg9 := (hq.trans' hEc).keep HG9.out
          have hls := lt_of HG9.out
          have hqs := hq.size
          cases ok
          · have hnn : innF l m W (r + 1) = none := by
              have h1 := HOK0.out rfl
              simp only [innF, HIN.out, HDT.out, h1, Option.bind_some, Option.bind_none]
            have hnil := innF_none hnn (n := R) (by omega)
            obtain ⟨p0, p1, f0, f1, hl⟩ := zbox HZ4.out hEx
            have HNIL := Lib.hid hnil
            clear hg9 hnn hnil
            go_wp2_with fail
            refine bodyPost_ret (v := .tuple #[.agg #[.int .i64 0, .int .u64 0], .int .i64 4]) (by simp [results, Try.results37, go_sem, *]) rfl ⟨by rw [HNIL.out]; rfl, ?_⟩
            exact ((hEw4.trans' hEx).setR (p := ⟨w.heap.size, 0, none⟩) (Nat.le_refl _) _).setR (p := ⟨w.heap.size, 1, none⟩) (Nat.le_refl _) _
          · obtain ⟨n, rfl, rfl, rfl⟩ := HOK1.out rfl
            have a0 := (cell_of hg9 0).trans rfl
            have a1 := (cell_of hg9 1).trans rfl
            have f0 := frozen_of hg9 0
            have f1 := frozen_of hg9 1
            have HG9' := Lib.hid hg9
            have hss : innF l m W (r + 1) = some (bif decide (r = 0) || decide (n < best) then n else best) := by
              simp only [innF, HIN.out, HDT.out, Option.bind_some]
            by_cases hr0 : r = 0
            · have hr0' : ((r : Int) == 0) = true := by simp [hr0]
              have hdd : (decide (r = 0) || decide (n < best)) = true := by simp [hr0]
              rw [hdd] at hss
              have HSS := Lib.hid hss
              clear hg9 hss hdd hr0
              go_wp2_with fail
              go_roundw
              case rel =>
                exact ⟨r + 1, n, by omega, by go_num, HSS.out, (hEx.setR (p := ⟨w4.heap.size, 0, none⟩) (Nat.le_refl _) _).setR (p := ⟨w4.heap.size, 1, none⟩) (Nat.le_refl _) _, set2 HG9'.out _ _⟩
              case measure => simp [intOf]; omega
            · have hr0' : ((r : Int) == 0) = false := by simpa using hr0
              by_cases hlt : n < best
              · have hdd : (decide (r = 0) || decide (n < best)) = true := by simp [hlt]
                rw [hdd] at hss
                have HSS := Lib.hid hss
                clear hg9 hss hdd hr0
                go_wp2_with fail
                refine Calls.mono (Less_c n best _) ?_
                rintro e wl ⟨rfl, hxl⟩
                rw [decide_eq_true hlt]
                have hz' := hxl.keep hz
                have y0' := (cell_of hz' 0).trans rfl
                have y1' := (cell_of hz' 1).trans rfl
                have zl' := lt_of hz'
                have hg9' := hxl.keep HG9'.out
                have a0' := (cell_of hg9' 0).trans rfl
                have a1' := (cell_of hg9' 1).trans rfl
                have f0' := frozen_of hg9' 0
                have f1' := frozen_of hg9' 1
                have HG9'' := Lib.hid hg9'
                clear hg9' hz'
                go_wp2_with fail
                go_roundw
                case rel =>
                  exact ⟨r + 1, n, by omega, by go_num, HSS.out, ((hEx.trans' hxl).setR (p := ⟨w4.heap.size, 0, none⟩) (Nat.le_refl _) _).setR (p := ⟨w4.heap.size, 1, none⟩) (Nat.le_refl _) _, set2 HG9''.out _ _⟩
                case measure => simp [intOf]; omega
              · have hdd : (decide (r = 0) || decide (n < best)) = false := by simp [hlt, hr0]
                rw [hdd] at hss
                have HSS := Lib.hid hss
                clear hg9 hss hdd hr0
                go_wp2_with fail
                refine Calls.mono (Less_c n best _) ?_
                rintro e wl ⟨rfl, hxl⟩
                rw [decide_eq_false (show ¬ n < best by omega)]
                have hg9' := hxl.keep HG9'.out
                have HG9'' := Lib.hid hg9'
                clear hg9'
                go_wp2_with fail
                go_roundw
                case rel => exact ⟨r + 1, best, by omega, by go_num, HSS.out, hEx.trans' hxl, HG9''.out⟩
                case measure => simp [intOf]; omega
      · obtain rfl : r = R := by omega
        have HIN := Lib.hid hin
        have a0 := (cell_of hg9 0).trans rfl
        have a1 := (cell_of hg9 1).trans rfl
        have al := lt_of hg9
        obtain ⟨p0, p1, f0, f1, hl⟩ := zbox HZ4.out hE
        clear hin hg9
        go_wp2_with fail
        refine bodyPost_ret (v := .tuple #[.agg #[.int .i64 (hi best), .int .u64 (lo best)], .int .i64 0]) (by simp [results, Try.results37, go_sem, *]) rfl ⟨by rw [HIN.out]; rfl, ?_⟩
        exact ((hEw4.trans' hE).setR (p := ⟨w.heap.size, 0, none⟩) (Nat.le_refl _) _).setR (p := ⟨w.heap.size, 1, none⟩) (Nat.le_refl _) _
end Go.Proofs.Ythancaehlijaoaa

/- gaugerlaw11.shown. -/
namespace Go.Proofs.Ythancaehlijaoaa
set_option linter.unusedVariables false
open Go.RowKit

def D0 : Cfg := ⟨2, 2, 1, 1, 0⟩
theorem D0_ok : D0.Ok := by constructor <;> simp [D0, U64]
theorem D0_cols (k : Int) : cols D0 0 k = [0, 0] := by
  have h0 := col_bd D0 (by simp [D0]) 0 k (0 : Nat)
  have h1 := col_bd D0 (by simp [D0]) 0 k (1 : Nat)
  have e0 : col D0 0 k (0 : Nat) = 0 := by have : D0.width = 1 := rfl; omega
  have e1 : col D0 0 k (1 : Nat) = 0 := by have : D0.width = 1 := rfl; omega
  show (List.range 2).map _ = _
  rw [show List.range 2 = [0, 1] from rfl]
  simp only [List.map_cons, List.map_nil]
  rw [e0, e1]
theorem D0_keys : keys D0 0 = 4 := by simp [keys, D0]
theorem D0_e1 : errU D0 0 2 1 [0, 0] 1 5 = 0 := by unfold errU; rw [D0_cols, D0_keys]; rfl
theorem D0_u1 : updL D0 0 2 1 [0, 0] 1 5 = [5, 5] := by unfold updL; rw [D0_cols]; rfl
theorem D0_e2 : errU D0 0 2 1 [0, 0] 2 7 = 0 := by unfold errU; rw [D0_cols, D0_keys]; rfl
theorem D0_u2 : updL D0 0 2 1 [0, 0] 2 7 = [7, 7] := by unfold updL; rw [D0_cols]; rfl
theorem D0_in : innF [5, 5] [7, 7] 1 2 = some 35 := by decide
theorem D_m5 : dotF [1, 2] [3, -4] 2 = some (-5) := by decide
theorem V35 : innV (some 35) = .tuple #[.agg #[.int .i64 0, .int .u64 35], .int .i64 0] := rfl
theorem Vm5 : dotV (some (-5)) = .tuple #[.agg #[.int .i64 (-1), .int .u64 18446744073709551611], .bool true] := rfl
theorem Of35 (w : World) : Calls Try.prog 40 #[.int .i64 35] w fun e w' => e = .returned (.agg #[.int .i64 0, .int .u64 35]) ∧ Ext w w' := Of_c 35 (by unfold I64; omega) w
theorem Ofm5 (w : World) : Calls Try.prog 40 #[.int .i64 (-5)] w fun e w' => e = .returned (.agg #[.int .i64 (-1), .int .u64 18446744073709551611]) ∧ Ext w w' := Of_c (-5) (by unfold I64; omega) w
theorem wbox {w0 wx : World} {b : Nat} {x y : Value} (h : w0.heap[b]? = some (.cells #[x, y] 56 (0, 0))) (hE : Ext w0 wx) :
    wx.cell? ⟨b, 0, none⟩ = some x ∧ wx.cell? ⟨b, 1, none⟩ = some y ∧ b < wx.heap.size :=
  have h' := hE.keep h
  ⟨(cell_of h' 0).trans rfl, (cell_of h' 1).trans rfl, lt_of h'⟩
theorem updpost {w w' : World} {s b c : Nat} {C : Cfg} {lv : Int} {R W : Nat} {l : List Int} {key d : Int} {e : Ending} (h : UpdPost w s b c C lv R W l key d e w') (he : errU C lv R W l key d = 0) :
    e = .returned (.int .i64 0) ∧ SAt w' s b c C lv R W (updL C lv R W l key d) ∧ Mod (fun k => k = c) w w' := by
  obtain ⟨h1, h2⟩ := h
  obtain ⟨_, hS, hM⟩ := h2.resolve_right (fun h => h.1 he)
  rw [he] at h1
  exact ⟨h1, hS, hM⟩
set_option maxRecDepth 20000 in
set_option maxHeartbeats 4000000 in
theorem shown11_c (w : World) : Calls Try.prog 30 #[] w fun e w' => e = .returned (.bool true) ∧ Ext w w' := by
  go_enter Try.func30, Try.ntmps30
  go_wp2_with fail
  have hCb : CfgAt (w.alloc (.cells #[.int .i64 2, .int .i64 2, .int .i64 1, .int .i64 1, .int .u64 0] 24)) w.heap.size D0 := CfgAt.box D0 _ rfl
  have hE0 : Ext w (w.alloc (.cells #[.int .i64 2, .int .i64 2, .int .i64 1, .int .i64 1, .int .u64 0] 24)) := Ext.alloc' _ _
  generalize w.alloc (.cells #[.int .i64 2, .int .i64 2, .int .i64 1, .int .i64 1, .int .u64 0] 24) = w0 at *
  refine (SNew_c D0 D0_ok 0 (by decide) (by decide) 2 1 rfl rfl _).mono ?_
  rintro e w1 ⟨s, b, c, rfl, hS, hs, hb, hc, hx1⟩
  have hE1 : Ext w0 w1 := by (repeat' (first | exact Ext.refl _ | assumption | apply Ext.allocR | apply Ext.drewR | apply Ext.drewNR | (refine Ext.trans' ?_ (by assumption))))
  have hC1 := hCb.ext hE1
  have d0 : w1.cell? ⟨w.heap.size, 0, none⟩ = some (.int .i64 2) := hC1.c0
  have d1 : w1.cell? ⟨w.heap.size, 1, none⟩ = some (.int .i64 2) := hC1.c1
  have d2 : w1.cell? ⟨w.heap.size, 2, none⟩ = some (.int .i64 1) := hC1.c2
  have d3 : w1.cell? ⟨w.heap.size, 3, none⟩ = some (.int .i64 1) := hC1.c3
  have d4 : w1.cell? ⟨w.heap.size, 4, none⟩ = some (.int .u64 0) := hC1.c4
  have dl := hC1.lt
  have hlt1 := hS.lts
  have hlt2 := hS.g.ltb
  have hlt3 := hS.g.ltc
  have hsz0 := hE0.size
  have hsz1 := hE1.size
  have HS := Lib.hid hS
  clear hx1 hC1 hCb hS
  go_wp2_with fail
  refine (SNew_c D0 D0_ok 0 (by decide) (by decide) 2 1 rfl rfl _).mono ?_
  rintro e w2 ⟨s2, b2, c2, rfl, hS2, hs2, hb2, hc2, hx2⟩
  have hE2 : Ext w1 w2 := by (repeat' (first | exact Ext.refl _ | assumption | apply Ext.allocR | apply Ext.drewR | apply Ext.drewNR | (refine Ext.trans' ?_ (by assumption))))
  have hsz2 := hE2.size
  have hlt4 := hS2.lts
  have hlt5 := hS2.g.ltb
  have hlt6 := hS2.g.ltc
  have HS2 := Lib.hid hS2
  clear hx2 d0 d1 d2 d3 d4 dl hS2
  go_wp2_with fail
  refine Calls.mono (Update_c s b c D0 0 2 1 _ 1 5 _ ((HS.out.ext hE2).ext ?hx) (by unfold I64; omega) (by decide)) ?_
  case hx => (repeat' (first | exact Ext.refl _ | assumption | apply Ext.allocR | apply Ext.drewR | apply Ext.drewNR | (refine Ext.trans' ?_ (by assumption))))
  intro e w3 hup
  obtain ⟨rfl, hS3, hM3⟩ := updpost hup D0_e1
  rw [show updL D0 0 2 1 (zs (2 * 1)) 1 5 = [5, 5] from D0_u1] at hS3
  have hT3 := HS2.out.mod hM3 (by omega) (by omega) (by omega)
  have hE3 : Ext w w3 := Below.trans (hE0.trans' (hE1.trans' hE2)) (hM3.below (B := w.heap.size) (by show _ ≤ w2.heap.size; omega) (fun i hi => by omega))
  have hsz3 := hM3.size
  have HS3 := Lib.hid hS3
  have HT3 := Lib.hid hT3
  clear hM3 hup hS3 hT3 HS HS2 hE0 hE1 hE2
  go_wp2_with fail
  refine Calls.mono (Update_c s2 b2 c2 D0 0 2 1 _ 2 7 _ (HT3.out.ext ?hx) (by unfold I64; omega) (by decide)) ?_
  case hx => (repeat' (first | exact Ext.refl _ | assumption | apply Ext.allocR | apply Ext.drewR | apply Ext.drewNR | (refine Ext.trans' ?_ (by assumption))))
  intro e w4 hup
  obtain ⟨rfl, hT4, hM4⟩ := updpost hup D0_e2
  rw [show updL D0 0 2 1 (zs (2 * 1)) 2 7 = [7, 7] from D0_u2] at hT4
  have hS4 := HS3.out.mod hM4 (by omega) (by omega) (by omega)
  have hE4 : Ext w w4 := Below.trans hE3 (hM4.below (B := w.heap.size) (by have := hE3.size; omega) (fun i hi => by omega))
  have HS4 := Lib.hid hS4
  have HT4 := Lib.hid hT4
  clear hM4 hup hS4 hT4 HS3 HT3 hE3
  go_wp2_with fail
  refine Calls.mono (Inner_c s b c s2 b2 c2 D0 0 2 1 [5, 5] [7, 7] _ (HS4.out.ext ?hx) (HT4.out.ext ?hy) rfl) ?_
  case hx => (repeat' (first | exact Ext.refl _ | assumption | apply Ext.allocR | apply Ext.drewR | apply Ext.drewNR | (refine Ext.trans' ?_ (by assumption))))
  case hy => (repeat' (first | exact Ext.refl _ | assumption | apply Ext.allocR | apply Ext.drewR | apply Ext.drewNR | (refine Ext.trans' ?_ (by assumption))))
  rw [D0_in, V35]
  rintro e w5 ⟨rfl, hx5⟩
  have hE5 : Ext w4 w5 := by (repeat' (first | exact Ext.refl _ | assumption | apply Ext.allocR | apply Ext.drewR | apply Ext.drewNR | (refine Ext.trans' ?_ (by assumption))))
  have hnb := heap_at w5 (.cells #[.int .i64 0, .int .u64 35] 56) rfl
  have hE5b : Ext w5 (w5.alloc (.cells #[.int .i64 0, .int .u64 35] 56)) := Ext.alloc' _ _
  go_wp2_with fail
  generalize w5.alloc (.cells #[.int .i64 0, .int .u64 35] 56) = w5b at *
  refine Calls.mono (Inner_nil2 s _) ?_
  rintro e w6 ⟨rfl, hx6⟩
  have hE6 : Ext w5b w6 := by (repeat' (first | exact Ext.refl _ | assumption | apply Ext.allocR | apply Ext.drewR | apply Ext.drewNR | (refine Ext.trans' ?_ (by assumption))))
  clear hx5 hx6
  go_wp2_with fail
  refine Calls.mono (Dot_c [1, 2] [3, -4] _ _ _ (by intro x hx; simp at hx; unfold I64; omega) (by intro x hx; simp at hx; unfold I64; omega) rfl (by simp) (.inr ⟨_, 0, 2, rfl, ?q1, ?q2⟩) (.inr ⟨_, 0, 2, rfl, ?q3, ?q4⟩)) ?_
  case q1 => simp only [size_alloc]; omega
  case q3 => simp only [size_alloc]; omega
  case q2 =>
    intro k hk
    have : k = 0 ∨ k = 1 := by simp at hk; omega
    rcases this with rfl | rfl <;> simp [go_sem]
  case q4 =>
    intro k hk
    have : k = 0 ∨ k = 1 := by simp at hk; omega
    rcases this with rfl | rfl <;> simp [go_sem]
  rw [show ([1, 2] : List Int).length = 2 from rfl, D_m5, Vm5]
  rintro e w7 ⟨rfl, hx7⟩
  have hE7 : Ext w6 w7 := by (repeat' (first | exact Ext.refl _ | assumption | apply Ext.allocR | apply Ext.drewR | apply Ext.drewNR | (refine Ext.trans' ?_ (by assumption))))
  have hdb := heap_at w7 (.cells #[.int .i64 (-1), .int .u64 18446744073709551611] 56) rfl
  have hE7b : Ext w7 (w7.alloc (.cells #[.int .i64 (-1), .int .u64 18446744073709551611] 56)) := Ext.alloc' _ _
  clear hx7
  go_wp2_with fail
  generalize w7.alloc (.cells #[.int .i64 (-1), .int .u64 18446744073709551611] 56) = w7b at *
  refine Calls.mono (Dot_no _ _ 1 1 0 0 _ (by decide) (by decide) (by decide)) ?_
  rintro e w8 ⟨rfl, hx8⟩
  have hE8 : Ext w7b w8 := by (repeat' (first | exact Ext.refl _ | assumption | apply Ext.allocR | apply Ext.drewR | apply Ext.drewNR | (refine Ext.trans' ?_ (by assumption))))
  obtain ⟨a0, a1, al⟩ := wbox hnb (hE6.trans' (hE7.trans' (hE7b.trans' hE8)))
  obtain ⟨b0, b1, bl⟩ := wbox hdb hE8
  have hEw : Ext w w8 := hE4.trans' (hE5.trans' (hE5b.trans' (hE6.trans' (hE7.trans' (hE7b.trans' hE8)))))
  clear hx8 hnb hdb hE4 hE5 hE5b hE6 hE7 hE7b hE8 HS4 HT4
  go_wp2_with fail
  refine wp_region_after (by kernel_rfl) (by kernel_rfl) ?_
  repeat (go_big_quiet_step ((first | (go_at_call 40; exact quiet_after (Of35 _)) | (go_at_call 40; exact quiet_after (Ofm5 _)))))
  refine wpQuiet_nil ?_
  rintro _ ⟨xx, rfl⟩
  obtain ⟨wq, hq⟩ := xx
  try dsimp only
  go_wp2
  go_ret
  exact ⟨rfl, (hEw.allocR _).trans' hq⟩
end Go.Proofs.Ythancaehlijaoaa

/- Plain laws: products of rows fit, and it does not matter which is named first. -/
namespace Go.Proofs.Ythancaehlijaoaa
set_option linter.unusedVariables false

def dotS (a b : List Int) : Nat → Int
  | 0 => 0
  | k + 1 => dotS a b k + a.getD k 0 * b.getD k 0
theorem dotF_comm (a b : List Int) : ∀ k, dotF a b k = dotF b a k := by
  intro k
  induction k with
  | zero => rfl
  | succ k ih =>
    simp only [dotF]
    rw [ih]
    congr 1
    funext s
    rw [Int.mul_comm (a.getD k 0)]
theorem innF_comm (l m : List Int) (W : Nat) : ∀ r, innF l m W r = innF m l W r := by
  intro r
  induction r with
  | zero => rfl
  | succ r ih =>
    simp only [innF]
    rw [ih, dotF_comm]
theorem dotF_fit {a b : List Int} (ha : Bnd 35184372088832 a) (hb : Bnd 35184372088832 b) : ∀ k, k ≤ 1000 → dotF a b k = some (dotS a b k) ∧ -((k : Int) * 1237940039285380274899124224) ≤ dotS a b k ∧ dotS a b k ≤ (k : Int) * 1237940039285380274899124224 := by
  intro k
  induction k with
  | zero => intro _; exact ⟨rfl, by simp [dotS], by simp [dotS]⟩
  | succ k ih =>
    intro hk
    obtain ⟨h1, h2, h3⟩ := ih (by omega)
    have hp := mul_abs (ha.getD (by omega) k) (hb.getD (by omega) k)
    have hw : W128 (dotS a b k + a.getD k 0 * b.getD k 0) := by unfold W128; omega
    refine ⟨dotF_yes h1 hw, ?_, ?_⟩
    · show _ ≤ dotS a b k + a.getD k 0 * b.getD k 0; push_cast; omega
    · show dotS a b k + a.getD k 0 * b.getD k 0 ≤ _; push_cast; omega
theorem Bnd.row {B : Int} {l : List Int} (h : Bnd B l) (hB : 0 ≤ B) (W r : Nat) : Bnd B (rowP l W r) := by
  intro x hx
  simp only [rowP, List.mem_map, List.mem_range] at hx
  obtain ⟨k, _, rfl⟩ := hx
  exact h.getD hB _
theorem Bnd.le {A B : Int} {l : List Int} (h : Bnd A l) (hAB : A ≤ B) : Bnd B l := fun x hx => ⟨by have := (h x hx).1; omega, by have := (h x hx).2; omega⟩
/-- The least of the sums of products of the first r rows. -/
def innS (l m : List Int) (W : Nat) : Nat → Int
  | 0 => 0
  | r + 1 => bif decide (r = 0) || decide (dotS (rowP l W r) (rowP m W r) W < innS l m W r) then dotS (rowP l W r) (rowP m W r) W else innS l m W r
theorem innF_fit {l m : List Int} (hl : Bnd 35184372088832 l) (hm : Bnd 35184372088832 m) {W : Nat} (hW : W ≤ 1000) : ∀ r, innF l m W r = some (innS l m W r) := by
  intro r
  induction r with
  | zero => rfl
  | succ r ih =>
    have hd := (dotF_fit (hl.row (by omega) W r) (hm.row (by omega) W r) W hW).1
    simp only [innF, ih, hd, Option.bind_some, innS]
end Go.Proofs.Ythancaehlijaoaa

/- The box of two rows of updates; a config in the mode Linear, and a level of it. -/
namespace Go.Proofs.Ythancaehlijaoaa
set_option linter.unusedVariables false

structure TwoAt (w : World) (b : Nat) (x : Cfg) (lv : Int) (u m : Value) : Prop where
  c : CfgAt w b x
  c5 : w.cell? ⟨b, 5, none⟩ = some (.int .i64 lv)
  c6 : w.cell? ⟨b, 6, none⟩ = some u
  c7 : w.cell? ⟨b, 7, none⟩ = some m
theorem TwoAt.of {w : World} {b : Nat} {x : Cfg} {lv : Int} {u m : Value} {t : TypeId} (h : w.heap[b]? = some (.cells #[.int .i64 x.bits, .int .i64 x.rows, .int .i64 x.width, .int .i64 x.mode, .int .u64 x.seed, .int .i64 lv, u, m] t (0, 0))) : TwoAt w b x lv u m :=
  ⟨⟨lt_of h, (cell_of h 0).trans rfl, (cell_of h 1).trans rfl, (cell_of h 2).trans rfl, (cell_of h 3).trans rfl, (cell_of h 4).trans rfl⟩, (cell_of h 5).trans rfl, (cell_of h 6).trans rfl, (cell_of h 7).trans rfl⟩
theorem TwoAt.ext {w w' : World} {b : Nat} {x : Cfg} {lv : Int} {u m : Value} (h : TwoAt w b x lv u m) (he : Ext w w') : TwoAt w' b x lv u m :=
  ⟨h.c.ext he, ((bcell he).1 _ _ h.c.lt).trans h.c5, ((bcell he).1 _ _ h.c.lt).trans h.c6, ((bcell he).1 _ _ h.c.lt).trans h.c7⟩
theorem TwoAt.mod {S : Nat → Prop} {w w' : World} {b : Nat} {x : Cfg} {lv : Int} {u m : Value} (h : TwoAt w b x lv u m) (he : Mod S w w') (hs : ¬ S b) : TwoAt w' b x lv u m :=
  ⟨h.c.mod he hs, (mcell he h.c.lt hs 5).trans h.c5, (mcell he h.c.lt hs 6).trans h.c6, (mcell he h.c.lt hs 7).trans h.c7⟩
/-- A config in the mode Linear. -/
def tcfg (x : Cfg) (nb : Int) : Cfg := { mkC x nb 9 with mode := 1 }
theorem tcfg_ok (x : Cfg) (hs : U64 x.seed) {nb : Int} (h1 : 1 ≤ nb) (h2 : nb ≤ 20) : (tcfg x nb).Ok := by
  obtain ⟨a1, a2, a3, a4, a5, a6, a7, a8, a9⟩ := mkC_ok x hs h1 h2 (show (1 : Int) ≤ 9 by decide) (show (9 : Int) ≤ 20 by decide)
  exact ⟨a1, a2, a3, a4, a5, a6, show (1 : Int) ≤ 1 by decide, show (1 : Int) ≤ 3 by decide, a9⟩
theorem tmod20 (d : Int) : -1048576 < d.tmod 1048576 ∧ d.tmod 1048576 < 1048576 := ⟨Int.lt_tmod_of_pos d (by decide), Int.tmod_lt_of_pos d (by decide)⟩
end Go.Proofs.Ythancaehlijaoaa

/- gaugerlaw11.plain: updates of keys that a level has, none below 0. -/
namespace Go.Proofs.Ythancaehlijaoaa
set_option linter.unusedVariables false
open Go.RowKit

def pl20 (d : Int) : Int := max (d.tmod 1048576) (-(d.tmod 1048576))
def plainP (C : Cfg) (lv : Int) (us : List (Int × Int)) : List (Int × Int) := us.map fun u => (cutK C lv u.1, pl20 u.2)
theorem plainP_len (C : Cfg) (lv : Int) (us : List (Int × Int)) : (plainP C lv us).length = us.length := by simp [plainP]
theorem plainP_snoc (C : Cfg) (lv : Int) (us : List (Int × Int)) (u : Int × Int) : plainP C lv (us ++ [u]) = plainP C lv us ++ [(cutK C lv u.1, pl20 u.2)] := by simp [plainP]
set_option maxRecDepth 20000 in
set_option maxHeartbeats 8000000 in
theorem plain_c (C : Cfg) (hok : C.Ok) (LV : Int) (lb1 : 0 ≤ LV) (lb2 : LV ≤ C.bits) (us : List (Int × Int)) (hus : UpsOk us) (v : Value) (w : World) (hv : UpsAt w v us) (hul : us.length ≤ 140737488355328) :
    Calls Try.prog 39 #[.agg #[.int .i64 C.bits, .int .i64 C.rows, .int .i64 C.width, .int .i64 C.mode, .int .u64 C.seed], .int .i64 LV, v] w
      fun e w' => ∃ z, e = .returned z ∧ UpsAt w' z (plainP C LV (fus us 0 30)) ∧ (∀ k, z.ownBlock = some k → w.heap.size ≤ k) ∧ Ext w w' := by
  obtain ⟨vp, vc, rfl⟩ := hv.sl
  have HV := Lib.hid hv
  clear hv
  have hkb := keys_bd C hok LV lb1
  have hkn : keys C LV ≠ 0 := by omega
  have hkz : (keys C LV == 0) = false := by simpa using hkn
  go_enter Try.func39, Try.ntmps39
  go_wp2_with fail
  go_loopw [7, 8] (fun u7 u8 wr => ∃ i : Nat, i ≤ 30 ∧ i ≤ us.length ∧ u8 = .int .i64 i ∧ Ext w wr ∧ wr.heap[w.heap.size]? = some (.cells #[.int .i64 C.bits, .int .i64 C.rows, .int .i64 C.width, .int .i64 C.mode, .int .u64 C.seed] 24 (0, 0)) ∧ wr.ownsRow (w.heap.size + 1) 34 2 u7 (plainP C LV (fus us 0 i)).length (updV (plainP C LV (fus us 0 i)))) (fun _ u8 _ => 30 - (intOf u8).toNat)
  case atStart => exact ⟨0, Nat.zero_le _, Nat.zero_le _, rfl, Ext.alloc' _ _, heap_at _ _ rfl, by rw [fus_self]; exact ⟨rfl, .inl ⟨rfl, rfl⟩⟩⟩
  case round =>
    obtain ⟨i, hi30, hil, rfl, hE, hcb, hrow⟩ := hrel
    have hC : CfgAt wr w.heap.size C := CfgAt.of hcb
    by_cases hgo : i < us.length ∧ i < 30
    · obtain ⟨hg1, hg2⟩ := hgo
      obtain ⟨ug, off, rfl, hul0, e0', e1'⟩ := HV.out.one hg1
      have e0 := ((bcell hE).1 ug _ hul0).trans e0'
      have e1 := ((bcell hE).1 ug _ hul0).trans e1'
      have hulr : ug < wr.heap.size := Nat.lt_of_lt_of_le hul0 hE.size
      have hu := hus _ (List.getElem_mem hg1)
      have hsn : plainP C LV (fus us 0 (i + 1)) = plainP C LV (fus us 0 i) ++ [(cutK C LV us[i].1, pl20 us[i].2)] := by
        rw [fus_snoc us (Nat.zero_le i) hg1, plainP_snoc]
        have : us.getD i (0, 0) = us[i] := by simp [hg1]
        rw [this]
      have hln : (plainP C LV (fus us 0 i)).length ≤ 30 := by rw [plainP_len]; exact Nat.le_trans (fus_len us 0 i) hi30
      have c0 := hC.c0
      have c1 := hC.c1
      have c2 := hC.c2
      have c3 := hC.c3
      have c4 := hC.c4
      have cl := hC.lt
      generalize us[i] = uu at *
      obtain ⟨uk, ud⟩ := uu
      generalize plainP C LV (fus us 0 i) = PS at *
      obtain ⟨hu1, hu2⟩ := hu.1
      obtain ⟨hu3, hu4⟩ := hu.2
      have ht := tmod20 ud
      have hr0 : 0 ≤ uk % keys C LV := Int.emod_nonneg _ hkn
      have HROW := Lib.hid hrow
      have HC := Lib.hid hC
      have HCB := Lib.hid hcb
      clear hrow hC hcb e0' e1' hu
      obtain ⟨S, hSS⟩ : ∃ S : Nat → Prop, ∀ i, S i ↔ u7.ownBlock = some i := ⟨_, fun _ => Iff.rfl⟩
      have n1 : ¬ S w.heap.size := fun h => by have := own_blk HROW.out ((hSS _).1 h); omega
      have n3 : ¬ S ug := fun h => by have := own_blk HROW.out ((hSS _).1 h); omega
      have HSS := Lib.hid hSS
      clear hSS
      by_cases hmx : -ud.tmod 1048576 ≤ ud.tmod 1048576
      · have hpl : pl20 ud = ud.tmod 1048576 := by unfold pl20; omega
        rw [hpl] at hsn
        have HSN := Lib.hid hsn
        clear hsn hpl
        go_wp2_with fail
        have hC0 := afs_drew S wr
        refine pi_start (fun w' => ∃ x : AftS S wr, w' = x.w) [] (by kernel_rfl) ?_
        refine pi_t 0 rfl (by kernel_rfl) (by kernel_rfl) (fun _ _ _ _ h => h) (fun K hK => ?_)
        go_big_quiet_op
        refine hK _ ?_
        clear hK K
        refine pi_t 1 rfl (by kernel_rfl) (by kernel_rfl) (fun _ _ _ _ h => h) (fun K hK => ?_)
        go_big_quiet_op
        refine hK _ ?_
        clear hK K
        refine pi_t 2 rfl (by kernel_rfl) (by kernel_rfl) (fun _ _ _ _ h => h) (fun K hK => ?_)
        go_big_quiet_op
        refine hK _ ?_
        clear hK K
        refine pi_t 3 rfl (by kernel_rfl) (by kernel_rfl) (fun _ _ _ _ h => h) (fun K hK => ?_)
        go_big_quiet_op
        refine hK _ ?_
        clear hK K
        refine pi_t 4 rfl (by kernel_rfl) (by kernel_rfl) (fun _ _ _ _ h => h) (fun K hK => ?_)
        go_big_quiet_op
        refine hK _ ?_
        clear hK K
        refine pi_c 5 (by assumption) rfl (by kernel_rfl) (by kernel_rfl) (fun _ _ _ _ h => h) (fun K hK => ?_)
        go_big_quiet_op
        refine hK _ ?_
        clear hK K
        refine pi_c 6 (by assumption) rfl (by kernel_rfl) (by kernel_rfl) (fun _ _ _ _ h => h) (fun K hK => ?_)
        go_big_quiet_op
        refine hK _ ?_
        clear hK K
        refine pi_t 7 rfl (by kernel_rfl) (by kernel_rfl) (fun _ _ _ _ h => h) (fun K hK => ?_)
        go_big_quiet_op
        refine hK _ ?_
        clear hK K
        refine pi_t 10 rfl (by kernel_rfl) (by kernel_rfl) (fun _ _ _ _ h => h) (fun K hK => ?_)
        go_big_quiet_op
        refine hK _ ?_
        clear hK K
        refine pi_t 11 rfl (by kernel_rfl) (by kernel_rfl) (fun _ _ _ _ h => h) (fun K hK => ?_)
        go_big_quiet_op
        refine hK _ ?_
        clear hK K
        refine pi_t 12 rfl (by kernel_rfl) (by kernel_rfl) (fun _ _ _ _ h => h) (fun K hK => ?_)
        go_big_quiet_op
        refine hK _ ?_
        clear hK K
        refine pi_t 13 rfl (by kernel_rfl) (by kernel_rfl) (fun _ _ _ _ h => h) (fun K hK => ?_)
        go_big_quiet_op
        refine hK _ ?_
        clear hK K
        refine pi_l 8 rfl (by kernel_rfl) (fun K hK => ?_)
        go_wp2_with (go_at_call 23; refine (KeysR_c C hok LV lb1 lb2 _).mono ?_; rintro e wx ⟨rfl, hx3⟩)
        refine hK _ _ (fun _ h => afs_step h hx3) ?_
        clear hK K
        have hEx : Ext wr wx := Ext.trans' (Below.drew (Ext.refl wr)) hx3
        refine pi_t 9 rfl (by kernel_rfl) (by kernel_rfl) (fun _ _ _ _ h => h) (fun K hK => ?_)
        go_big_quiet_op
        refine hK _ ?_
        clear hK K
        refine pi_t 14 rfl (by kernel_rfl) (by kernel_rfl) (fun _ _ _ _ h => h) (fun K hK => ?_)
        go_big_quiet_op
        refine hK _ ?_
        clear hK K
        refine pi_l 15 rfl (by kernel_rfl) (fun K hK => ?_)
        go_wp2
        refine hK _ _ (fun _ h => afs_step h (Ext.alloc' _ _)) ?_
        clear hK K
        obtain ⟨i0, z0, hi0, hz0, hz1, hz2, hz3⟩ := info_upd
        have hrx : wx.ownsRow (w.heap.size + 1) 34 2 u7 PS.length (updV PS) := own_ext HROW.out hEx
        have hszx := hEx.size
        refine pi_l 16 rfl (by kernel_rfl) (fun K hK => ?_)
        go_wp2_with (at_builtin; refine wpList_appu wx (uk % keys C LV, ud.tmod 1048576) PS u7 (w.heap.size + 1) 34 34 hrx 25 rfl _ _ rfl i0 z0 hi0 hz0 hz1 hz2 hz3 Try.underlying25 rfl rfl ?a1 ?a2 ?_)
        case a1 => omega
        case a2 => omega
        intro z' w4 hr4 hg4 _
        have hE4 : Ext w w4 := ext_grown (hE.trans' hEx) hg4 (fun k hk => by have := own_blk hrx hk; omega)
        have hC4 := (grown_old hg4 (j := w.heap.size) (Nat.lt_of_lt_of_le cl hEx.size) (fun e => by have := own_blk hrx e.symm; omega)).trans (hEx.keep HCB.out)
        have hm4 : Mod S wr w4 := mod_grown (hEx.mod _) hg4 (fun i hi => (HSS.out i).2 hi)
        have HR4 := Lib.hid hr4
        have HC4 := Lib.hid hC4
        clear hg4 hr4 hC4 hrx
        go_wp2
        refine hK _ _ (fun _ _ => ⟨⟨w4, hm4⟩, rfl⟩) ?_
        clear hK K
        refine pi_t 17 rfl (by kernel_rfl) (by kernel_rfl) (fun _ _ _ _ h => h) (fun K hK => ?_)
        go_big_quiet_op
        refine hK _ ?_
        clear hK K
        refine pi_end (by kernel_rfl) ?_
        go_wp2_with fail
        go_roundw
        case rel =>
          refine ⟨i + 1, by omega, by omega, by go_num, hE4, HC4.out, ?_⟩
          rw [HSN.out, List.length_append]
          exact HR4.out
        case measure => simp [intOf]; omega
      · have hpl : pl20 ud = -ud.tmod 1048576 := by unfold pl20; omega
        rw [hpl] at hsn
        have HSN := Lib.hid hsn
        clear hsn hpl
        go_wp2_with fail
        have hC0 := afs_drew S wr
        refine pi_start (fun w' => ∃ x : AftS S wr, w' = x.w) [] (by kernel_rfl) ?_
        refine pi_t 0 rfl (by kernel_rfl) (by kernel_rfl) (fun _ _ _ _ h => h) (fun K hK => ?_)
        go_big_quiet_op
        refine hK _ ?_
        clear hK K
        refine pi_t 1 rfl (by kernel_rfl) (by kernel_rfl) (fun _ _ _ _ h => h) (fun K hK => ?_)
        go_big_quiet_op
        refine hK _ ?_
        clear hK K
        refine pi_t 2 rfl (by kernel_rfl) (by kernel_rfl) (fun _ _ _ _ h => h) (fun K hK => ?_)
        go_big_quiet_op
        refine hK _ ?_
        clear hK K
        refine pi_t 3 rfl (by kernel_rfl) (by kernel_rfl) (fun _ _ _ _ h => h) (fun K hK => ?_)
        go_big_quiet_op
        refine hK _ ?_
        clear hK K
        refine pi_t 4 rfl (by kernel_rfl) (by kernel_rfl) (fun _ _ _ _ h => h) (fun K hK => ?_)
        go_big_quiet_op
        refine hK _ ?_
        clear hK K
        refine pi_c 5 (by assumption) rfl (by kernel_rfl) (by kernel_rfl) (fun _ _ _ _ h => h) (fun K hK => ?_)
        go_big_quiet_op
        refine hK _ ?_
        clear hK K
        refine pi_c 6 (by assumption) rfl (by kernel_rfl) (by kernel_rfl) (fun _ _ _ _ h => h) (fun K hK => ?_)
        go_big_quiet_op
        refine hK _ ?_
        clear hK K
        refine pi_t 7 rfl (by kernel_rfl) (by kernel_rfl) (fun _ _ _ _ h => h) (fun K hK => ?_)
        go_big_quiet_op
        refine hK _ ?_
        clear hK K
        refine pi_t 10 rfl (by kernel_rfl) (by kernel_rfl) (fun _ _ _ _ h => h) (fun K hK => ?_)
        go_big_quiet_op
        refine hK _ ?_
        clear hK K
        refine pi_t 11 rfl (by kernel_rfl) (by kernel_rfl) (fun _ _ _ _ h => h) (fun K hK => ?_)
        go_big_quiet_op
        refine hK _ ?_
        clear hK K
        refine pi_t 12 rfl (by kernel_rfl) (by kernel_rfl) (fun _ _ _ _ h => h) (fun K hK => ?_)
        go_big_quiet_op
        refine hK _ ?_
        clear hK K
        refine pi_t 13 rfl (by kernel_rfl) (by kernel_rfl) (fun _ _ _ _ h => h) (fun K hK => ?_)
        go_big_quiet_op
        refine hK _ ?_
        clear hK K
        refine pi_l 8 rfl (by kernel_rfl) (fun K hK => ?_)
        go_wp2_with (go_at_call 23; refine (KeysR_c C hok LV lb1 lb2 _).mono ?_; rintro e wx ⟨rfl, hx3⟩)
        refine hK _ _ (fun _ h => afs_step h hx3) ?_
        clear hK K
        have hEx : Ext wr wx := Ext.trans' (Below.drew (Ext.refl wr)) hx3
        refine pi_t 9 rfl (by kernel_rfl) (by kernel_rfl) (fun _ _ _ _ h => h) (fun K hK => ?_)
        go_big_quiet_op
        refine hK _ ?_
        clear hK K
        refine pi_t 14 rfl (by kernel_rfl) (by kernel_rfl) (fun _ _ _ _ h => h) (fun K hK => ?_)
        go_big_quiet_op
        refine hK _ ?_
        clear hK K
        refine pi_l 15 rfl (by kernel_rfl) (fun K hK => ?_)
        go_wp2
        refine hK _ _ (fun _ h => afs_step h (Ext.alloc' _ _)) ?_
        clear hK K
        obtain ⟨i0, z0, hi0, hz0, hz1, hz2, hz3⟩ := info_upd
        have hrx : wx.ownsRow (w.heap.size + 1) 34 2 u7 PS.length (updV PS) := own_ext HROW.out hEx
        have hszx := hEx.size
        refine pi_l 16 rfl (by kernel_rfl) (fun K hK => ?_)
        go_wp2_with (at_builtin; refine wpList_appu wx (uk % keys C LV, -ud.tmod 1048576) PS u7 (w.heap.size + 1) 34 34 hrx 25 rfl _ _ rfl i0 z0 hi0 hz0 hz1 hz2 hz3 Try.underlying25 rfl rfl ?a1 ?a2 ?_)
        case a1 => omega
        case a2 => omega
        intro z' w4 hr4 hg4 _
        have hE4 : Ext w w4 := ext_grown (hE.trans' hEx) hg4 (fun k hk => by have := own_blk hrx hk; omega)
        have hC4 := (grown_old hg4 (j := w.heap.size) (Nat.lt_of_lt_of_le cl hEx.size) (fun e => by have := own_blk hrx e.symm; omega)).trans (hEx.keep HCB.out)
        have hm4 : Mod S wr w4 := mod_grown (hEx.mod _) hg4 (fun i hi => (HSS.out i).2 hi)
        have HR4 := Lib.hid hr4
        have HC4 := Lib.hid hC4
        clear hg4 hr4 hC4 hrx
        go_wp2
        refine hK _ _ (fun _ _ => ⟨⟨w4, hm4⟩, rfl⟩) ?_
        clear hK K
        refine pi_t 17 rfl (by kernel_rfl) (by kernel_rfl) (fun _ _ _ _ h => h) (fun K hK => ?_)
        go_big_quiet_op
        refine hK _ ?_
        clear hK K
        refine pi_end (by kernel_rfl) ?_
        go_wp2_with fail
        go_roundw
        case rel =>
          refine ⟨i + 1, by omega, by omega, by go_num, hE4, HC4.out, ?_⟩
          rw [HSN.out, List.length_append]
          exact HR4.out
        case measure => simp [intOf]; omega
    · have hfe := fus_end us (i := 0) (j := 30) (k := i) (by omega) (by omega) (.inr ⟨hi30, hil⟩) hgo
      rw [hfe] at hrow
      have hUz := UpsAt.of_row hrow
      have HUZ := Lib.hid hUz
      have HOB : Hid (∀ k, u7.ownBlock = some k → w.heap.size ≤ k) := Lib.hid (fun k hk => by have := own_blk hrow hk; omega)
      clear hrow hUz hC hcb hfe
      go_wp2_with fail
      all_goals
        go_ret
        exact ⟨_, rfl, HUZ.out, HOB.out, hE⟩
end Go.Proofs.Ythancaehlijaoaa

/- Plain laws: the product of two rows of cells is a sum over pairs of updates. -/
namespace Go.Proofs.Ythancaehlijaoaa
set_option linter.unusedVariables false

/-- What one update makes with others. -/
def oneS (f : Int → Int → Bool) (p : Int × Int) (Q : List (Int × Int)) : Int := lsum (Q.map fun q => bif f p.1 q.1 then p.2 * q.2 else 0)
def pairS (f : Int → Int → Bool) (P Q : List (Int × Int)) : Int := lsum (P.map fun p => oneS f p Q)
theorem oneS_nil (f : Int → Int → Bool) (p : Int × Int) : oneS f p [] = 0 := rfl
theorem oneS_snoc (f : Int → Int → Bool) (p : Int × Int) (Q : List (Int × Int)) (q : Int × Int) : oneS f p (Q ++ [q]) = oneS f p Q + bif f p.1 q.1 then p.2 * q.2 else 0 := by
  simp only [oneS, List.map_append, List.map_cons, List.map_nil, lsum_append, lsum_cons, lsum_nil, Int.add_zero]
theorem oneS_cons (f : Int → Int → Bool) (p : Int × Int) (q : Int × Int) (Q : List (Int × Int)) : oneS f p (q :: Q) = (bif f p.1 q.1 then p.2 * q.2 else 0) + oneS f p Q := by
  simp only [oneS, List.map_cons, lsum_cons]
theorem pairS_nil (f : Int → Int → Bool) (Q : List (Int × Int)) : pairS f [] Q = 0 := rfl
theorem pairS_snoc (f : Int → Int → Bool) (P : List (Int × Int)) (p : Int × Int) (Q : List (Int × Int)) : pairS f (P ++ [p]) Q = pairS f P Q + oneS f p Q := by
  simp only [pairS, List.map_append, List.map_cons, List.map_nil, lsum_append, lsum_cons, lsum_nil, Int.add_zero]
theorem pairS_cons (f : Int → Int → Bool) (p : Int × Int) (P Q : List (Int × Int)) : pairS f (p :: P) Q = oneS f p Q + pairS f P Q := by
  simp only [pairS, List.map_cons, lsum_cons]
theorem oneS_sum (g : Int → Bool) (p : Int × Int) : ∀ Q : List (Int × Int), oneS (fun _ k => g k) p Q = p.2 * sumIf g Q := by
  intro Q
  induction Q with
  | nil => rw [oneS_nil, sumIf_nil, Int.mul_zero]
  | cons q Q ih =>
    rw [oneS_cons, sumIf_cons, ih, Int.mul_add]
    cases g q.1 <;> simp
theorem oneS_split (f g : Int → Int → Bool) (p : Int × Int) : ∀ Q : List (Int × Int), (∀ q ∈ Q, f p.1 q.1 = true → g p.1 q.1 = true) → oneS g p Q = oneS f p Q + oneS (fun a b => !(f a b) && g a b) p Q := by
  intro Q
  induction Q with
  | nil => intro _; rfl
  | cons q Q ih =>
    intro h
    have ih' := ih (fun x hx => h x (List.mem_cons_of_mem _ hx))
    have h0 := h q (List.mem_cons_self ..)
    rw [oneS_cons, oneS_cons, oneS_cons, ih']
    cases hf : f p.1 q.1 with
    | true => simp only [h0 hf, cond_true, Bool.not_true, Bool.false_and, cond_false]; omega
    | false => simp only [Bool.not_false, Bool.true_and, cond_false]; omega
theorem pairS_split (f g : Int → Int → Bool) (Q : List (Int × Int)) (h : ∀ a b, f a b = true → g a b = true) : ∀ P : List (Int × Int), pairS g P Q = pairS f P Q + pairS (fun a b => !(f a b) && g a b) P Q := by
  intro P
  induction P with
  | nil => rfl
  | cons p P ih =>
    rw [pairS_cons, pairS_cons, pairS_cons, ih, oneS_split f g p Q (fun q _ => h _ _)]
    omega
/-- Sums of products of sums, cell by cell. -/
def cellS (c : Int → Int) (P Q : List (Int × Int)) : Nat → Int
  | 0 => 0
  | a + 1 => cellS c P Q a + sumIf (fun k => c k == (a : Int)) P * sumIf (fun k => c k == (a : Int)) Q
theorem cellS_cons (c : Int → Int) (p : Int × Int) (P Q : List (Int × Int)) : ∀ W : Nat, cellS c (p :: P) Q W = cellS c P Q W + (if 0 ≤ c p.1 ∧ c p.1 < (W : Int) then p.2 * sumIf (fun k => c k == c p.1) Q else 0) := by
  intro W
  induction W with
  | zero => simp only [cellS]; rw [if_neg (by omega)]; rfl
  | succ W ih =>
    simp only [cellS]
    rw [ih, sumIf_cons, Int.add_mul]
    by_cases he : c p.1 = (W : Int)
    · have hb : (c p.1 == (W : Int)) = true := by simpa using he
      rw [if_neg (by omega), if_pos (by omega), hb, he]
      simp only [cond_true]
      omega
    · have hb : (c p.1 == (W : Int)) = false := by simpa using he
      rw [hb]
      simp only [cond_false, Int.zero_mul]
      by_cases h2 : 0 ≤ c p.1 ∧ c p.1 < (W : Int)
      · rw [if_pos h2, if_pos (by omega)]; omega
      · rw [if_neg h2, if_neg (by omega)]; omega
theorem cellS_nil (c : Int → Int) (Q : List (Int × Int)) : ∀ W : Nat, cellS c [] Q W = 0 := by
  intro W
  induction W with
  | zero => rfl
  | succ W ih => simp only [cellS]; rw [ih, sumIf_nil, Int.zero_mul]; rfl
theorem cellS_pairs (c : Int → Int) (Q : List (Int × Int)) (W : Nat) : ∀ P : List (Int × Int), (∀ p ∈ P, 0 ≤ c p.1 ∧ c p.1 < (W : Int)) → cellS c P Q W = pairS (fun a b => c b == c a) P Q := by
  intro P
  induction P with
  | nil =>
    intro _
    rw [pairS_nil, cellS_nil]
  | cons p P ih =>
    intro h
    rw [cellS_cons, pairS_cons, ih (fun x hx => h x (List.mem_cons_of_mem _ hx)), if_pos (h p (List.mem_cons_self ..))]
    have := oneS_sum (fun k => c k == c p.1) p Q
    have e : oneS (fun a b => c b == c a) p Q = oneS (fun _ k => c k == c p.1) p Q := rfl
    rw [e, this]
    omega
theorem pl20_bd (d : Int) : 0 ≤ pl20 d ∧ pl20 d ≤ 1048576 := by
  have := tmod20 d
  unfold pl20; omega
/-- Cut once more, plain updates are as they are. -/
theorem cutP_plain (C : Cfg) (hok : C.Ok) (hm : C.mode ≠ 2) (lv : Int) (h0 : 0 ≤ lv) (us : List (Int × Int)) : cutP C lv (plainP C lv us) = plainP C lv us := by
  unfold cutP plainP
  rw [List.map_map]
  apply List.map_congr_left
  intro u _
  have hk := cutK_bd C hok lv u.1 h0
  have hd := pl20_bd u.2
  show (cutK C lv (cutK C lv u.1), cutD C.mode (pl20 u.2)) = _
  have e1 : cutK C lv (cutK C lv u.1) = cutK C lv u.1 := Int.emod_eq_of_lt hk.1 hk.2
  have e2 : cutD C.mode (pl20 u.2) = pl20 u.2 := by
    unfold cutD
    rw [decide_eq_false hm]
    exact Int.tmod_eq_of_lt hd.1 (by omega)
  rw [e1, e2]
theorem plain_mem {C : Cfg} (hok : C.Ok) {lv : Int} (h0 : 0 ≤ lv) {us : List (Int × Int)} {p : Int × Int} (hp : p ∈ plainP C lv us) : 0 ≤ p.1 ∧ p.1 < keys C lv ∧ 0 ≤ p.2 ∧ p.2 ≤ 1048576 := by
  simp only [plainP, List.mem_map] at hp
  obtain ⟨u, _, rfl⟩ := hp
  have hk := cutK_bd C hok lv u.1 h0
  have hd := pl20_bd u.2
  exact ⟨hk.1, hk.2, hd.1, hd.2⟩
/-- The product of a row is the sum over pairs of one column. -/
theorem row_pairs (C : Cfg) (hok : C.Ok) (lv : Int) (R W : Nat) (hr : C.rows = R) (hw : C.width = W) (hm : C.mode ≠ 2) (us ms : List (Int × Int)) (h0 : 0 ≤ lv) {r : Nat} (hrr : r < R) :
    dotS (rowP (feed C lv R W (plainP C lv us) (zs (R * W))) W r) (rowP (feed C lv R W (plainP C lv ms) (zs (R * W))) W r) W = pairS (fun a b => (cols C lv b).getD r 0 == (cols C lv a).getD r 0) (plainP C lv us) (plainP C lv ms) := by
  have hcell : ∀ (xs : List (Int × Int)) (a : Nat), a < W → (rowP (feed C lv R W (plainP C lv xs) (zs (R * W))) W r).getD a 0 = sumIf (fun k => (cols C lv k).getD r 0 == (a : Int)) (plainP C lv xs) := by
    intro xs a ha
    rw [rowP_get _ ha, feed_cell C hok lv R W hr hw hm _ hrr ha, cutP_plain C hok hm lv h0]
  have hk : ∀ k, k ≤ W → dotS (rowP (feed C lv R W (plainP C lv us) (zs (R * W))) W r) (rowP (feed C lv R W (plainP C lv ms) (zs (R * W))) W r) k = cellS (fun k => (cols C lv k).getD r 0) (plainP C lv us) (plainP C lv ms) k := by
    intro k
    induction k with
    | zero => intro _; rfl
    | succ k ih =>
      intro hk
      simp only [dotS, cellS]
      rw [ih (by omega), hcell us k (by omega), hcell ms k (by omega)]
  rw [hk W (Nat.le_refl _)]
  refine cellS_pairs (fun k => (cols C lv k).getD r 0) _ W _ (fun p _ => ?_)
  have hme := cols_meets C hok lv p.1 hr hw
  exact ⟨hme.lo r hrr, hme.hi r hrr⟩
/-- What unlike keys of one column make. -/
def othPair (C : Cfg) (lv : Int) (r : Nat) (a b : Int) : Bool := !(a == b) && ((cols C lv b).getD r 0 == (cols C lv a).getD r 0)
theorem row_split (C : Cfg) (lv : Int) (r : Nat) (P Q : List (Int × Int)) : pairS (fun a b => (cols C lv b).getD r 0 == (cols C lv a).getD r 0) P Q = pairS (fun a b => a == b) P Q + pairS (othPair C lv r) P Q := by
  refine pairS_split (fun a b => a == b) _ Q (fun a b h => ?_) P
  have : a = b := by simpa using h
  subst this
  simp
end Go.Proofs.Ythancaehlijaoaa

/- Plain laws: bounds of sums over pairs; the least product is what the same keys make, and the least of what unlike ones make. -/
namespace Go.Proofs.Ythancaehlijaoaa
set_option linter.unusedVariables false

theorem oneS_bd (f : Int → Int → Bool) (p : Int × Int) (hp : 0 ≤ p.2 ∧ p.2 ≤ 1048576) : ∀ Q : List (Int × Int), (∀ q ∈ Q, 0 ≤ q.2 ∧ q.2 ≤ 1048576) → 0 ≤ oneS f p Q ∧ oneS f p Q ≤ (Q.length : Int) * 1099511627776 := by
  intro Q
  induction Q with
  | nil => intro _; simp [oneS_nil]
  | cons q Q ih =>
    intro h
    have ih' := ih (fun x hx => h x (List.mem_cons_of_mem _ hx))
    have hq := h q (List.mem_cons_self ..)
    have h1 : 0 ≤ p.2 * q.2 := Int.mul_nonneg hp.1 hq.1
    have h2 := mul_abs (a := p.2) (b := q.2) (A := 1048576) (B := 1048576) (by omega) (by omega)
    rw [oneS_cons, List.length_cons]
    push_cast
    cases f p.1 q.1
    · simp only [cond_false]; omega
    · simp only [cond_true]; omega
theorem pairS_bd (f : Int → Int → Bool) (Q : List (Int × Int)) (hQ : ∀ q ∈ Q, 0 ≤ q.2 ∧ q.2 ≤ 1048576) (hl : Q.length ≤ 30) : ∀ P : List (Int × Int), (∀ p ∈ P, 0 ≤ p.2 ∧ p.2 ≤ 1048576) → 0 ≤ pairS f P Q ∧ pairS f P Q ≤ (P.length : Int) * 32985348833280 := by
  intro P
  induction P with
  | nil => intro _; simp [pairS_nil]
  | cons p P ih =>
    intro h
    have ih' := ih (fun x hx => h x (List.mem_cons_of_mem _ hx))
    have h1 := oneS_bd f p (h p (List.mem_cons_self ..)) Q hQ
    rw [pairS_cons, List.length_cons]
    push_cast
    omega
theorem pairS_take (f : Int → Int → Bool) (P Q : List (Int × Int)) {i : Nat} (h : i < P.length) : pairS f (P.take (i + 1)) Q = pairS f (P.take i) Q + oneS f P[i] Q := by
  rw [List.take_succ_eq_append_getElem h, pairS_snoc]
theorem oneS_take (f : Int → Int → Bool) (p : Int × Int) (Q : List (Int × Int)) {k : Nat} (h : k < Q.length) : oneS f p (Q.take (k + 1)) = oneS f p (Q.take k) + bif f p.1 Q[k].1 then p.2 * Q[k].2 else 0 := by
  rw [List.take_succ_eq_append_getElem h, oneS_snoc]
/-- The least product of two rows, if each row is a number and what the row has more. -/
theorem innS_least {l m : List Int} {W : Nat} {own : Int} {f : Nat → Int} {R : Nat} (h : ∀ r, r < R → dotS (rowP l W r) (rowP m W r) W = own + f r) : ∀ r, r ≤ R → 0 < r → innS l m W r = own + leastF f r := by
  intro r
  induction r with
  | zero => intro _ h0; omega
  | succ r ih =>
    intro hr _
    have hd := h r (by omega)
    rw [leastF_succ]
    simp only [innS]
    rw [hd]
    by_cases h0 : r = 0
    · subst h0
      have e : leastF f 0 = f 0 := rfl
      rw [e]
      simp only [decide_true, Bool.true_or, cond_true]
      omega
    · have ih' := ih (by omega) (by omega)
      rw [ih', decide_eq_false h0, Bool.false_or]
      by_cases hc : own + f r < own + leastF f r
      · rw [decide_eq_true hc]; simp only [cond_true]; omega
      · rw [decide_eq_false hc]; simp only [cond_false]; omega
end Go.Proofs.Ythancaehlijaoaa

/- gaugerlaw10.SketchSums, walked. -/
namespace Go.Proofs.Ythancaehlijaoaa
set_option linter.unusedVariables false
open Go.RowKit

theorem own_keep {w w' : World} {base g : Nat} {e : TypeId} {n cap : Nat} {xs : List Value} (h : w.ownsRow base e 1 (.slice (some ⟨g, 0, none⟩) n cap) n xs) (hg : w'.heap[g]? = w.heap[g]?) : w'.ownsRow base e 1 (.slice (some ⟨g, 0, none⟩) n cap) n xs := by
  refine ⟨h.1, h.2.imp id ?_⟩
  rintro ⟨g', cap', cur, h', hb, hh, r⟩
  refine ⟨g', cap', cur, h', hb, ?_, r⟩
  obtain rfl : g = g' := by simpa using (Value.slice.inj h').1
  rw [hg]; exact hh
theorem own_put {w : World} {base g : Nat} {e : TypeId} {n cap : Nat} {l : List Int} (h : w.ownsRow base e 1 (.slice (some ⟨g, 0, none⟩) n cap) n (ints l)) (j : Nat) (x : Int) : (w.setCell ⟨g, j, none⟩ (.int .i64 x)).ownsRow base e 1 (.slice (some ⟨g, 0, none⟩) n cap) n (ints (l.set j x)) := by
  have := (h.stored j (.int .i64 x)).1
  unfold ints at *
  rw [List.map_set]; exact this
theorem mod_put {w w' : World} {g j : Nat} (h : Mod (fun i => i = g) w w') (u : Value) : Mod (fun i => i = g) w (w'.setCell ⟨g, j, none⟩ u) :=
  ⟨h.os, h.tape, h.output, by rw [size_setCell]; exact h.size, fun k hk hn => (setCell_other _ _ hn).trans (h.block k hk hn)⟩
theorem own_cell {w : World} {base g : Nat} {e : TypeId} {n cap : Nat} {l : List Int} (h : w.ownsRow base e 1 (.slice (some ⟨g, 0, none⟩) n cap) n (ints l)) {j : Nat} (hj : j < l.length) : w.cell? ⟨g, j, none⟩ = some (.int .i64 (l.getD j 0)) ∧ w.frozen? ⟨g, j, none⟩ = false := by
  obtain ⟨g', cap', cur, hv', _, hgh, _⟩ := h.2.resolve_left (fun h => by cases h.1)
  obtain rfl : g = g' := by simpa using (Value.slice.inj hv').1
  refine ⟨?_, frozen_of hgh j⟩
  obtain ⟨g2, o2, c2, hv2, _, hk⟩ := (IntsAt.of_row h).slice (by omega)
  have h1 := (Value.slice.inj hv2).1
  simp at h1
  obtain ⟨rfl, rfl⟩ := h1
  have := hk j hj
  rwa [Nat.zero_add] at this
/-- What the law itself sums: slots 12 .. 16 and the row. -/
def medM (med : Bool) : Int := bif med then 3 else 1
set_option maxRecDepth 20000 in
set_option maxHeartbeats 4000000 in
theorem Sums_c (x : Cfg) (hx : x.Raw) (med : Bool) (lv : Int) (hlv : I64 lv) (us : List (Int × Int)) (hus : UpsOk us) (v : Value) (w : World) (hv : UpsAt w v us) (hul : us.length ≤ 140737488355328) :
    Calls Try.prog 3 #[.agg #[.int .i64 x.bits, .int .i64 x.rows, .int .i64 x.width, .int .i64 x.mode, .int .u64 x.seed, .int .i64 lv, v], .bool med] w fun e w' => e = .returned (.bool true) ∧ Ext w w' := by
  have hsl : ∃ p c, v = .slice p us.length c := by
    rcases hv with ⟨⟨_, rfl⟩, rfl⟩ | ⟨g, off, cap, rfl, _⟩
    · exact ⟨_, _, rfl⟩
    · exact ⟨_, _, rfl⟩
  obtain ⟨vp, vc, rfl⟩ := hsl
  have HV := Lib.hid hv
  have hm1 : 1 ≤ medM med := by cases med <;> decide
  have hm2 : medM med ≤ 3 := by cases med <;> decide
  have hm3 : medM med ≠ 2 := by cases med <;> decide
  clear hv
  go_enter Try.func3, Try.ntmps3
  go_wp2_with fail
  refine (shown_c _).mono ?_
  rintro e w1 ⟨rfl, hb1⟩
  have hc := bcell hb1
  have hs1 := hb1.size
  simp only [size_alloc] at hs1
  have k0 : w1.cell? ⟨w.heap.size, 0, none⟩ = some (.int .i64 x.bits) := by rw [hc.1 _ _ (by simp only [size_alloc]; omega)]; simp [go_sem]
  have k1 : w1.cell? ⟨w.heap.size, 1, none⟩ = some (.int .i64 x.rows) := by rw [hc.1 _ _ (by simp only [size_alloc]; omega)]; simp [go_sem]
  have k2 : w1.cell? ⟨w.heap.size, 2, none⟩ = some (.int .i64 x.width) := by rw [hc.1 _ _ (by simp only [size_alloc]; omega)]; simp [go_sem]
  have k3 : w1.cell? ⟨w.heap.size, 3, none⟩ = some (.int .i64 x.mode) := by rw [hc.1 _ _ (by simp only [size_alloc]; omega)]; simp [go_sem]
  have k4 : w1.cell? ⟨w.heap.size, 4, none⟩ = some (.int .u64 x.seed) := by rw [hc.1 _ _ (by simp only [size_alloc]; omega)]; simp [go_sem]
  have k5 : w1.cell? ⟨w.heap.size, 5, none⟩ = some (.int .i64 lv) := by rw [hc.1 _ _ (by simp only [size_alloc]; omega)]; simp [go_sem]
  have k6 : w1.cell? ⟨w.heap.size, 6, none⟩ = some (.slice vp us.length vc) := by rw [hc.1 _ _ (by simp only [size_alloc]; omega)]; simp [go_sem]
  have hE1 : Ext w w1 := by (repeat' (first | exact Ext.refl _ | assumption | apply Ext.allocR | apply Ext.drewR | apply Ext.drewNR | (refine Ext.trans' ?_ (by assumption))))
  clear hc hb1
  go_upto_if 18 with (fail)
  go_cut [6] (fun s6 wx => s6 = .int .i64 (medM med) ∧ wx = w1)
  case first =>
    cases med
    · go_wp2_with fail
      go_meet
      exact ⟨rfl, rfl⟩
    · go_wp2_with fail
      go_meet
      exact ⟨rfl, rfl⟩
  case rest =>
    obtain ⟨rfl, rfl⟩ := hcut
    generalize hmm : medM med = m at *
    clear hmm
    have e2 := UpsAt.ext HV.out hE1
    go_wp2_with fail
    refine Calls.mono (fed_c x hx m hm1 hm2 lv hlv us hus _ 0 60 (by omega) (by omega) _ (e2.ext ?hx) hul) ?_
    case hx => (repeat' (first | exact Ext.refl _ | assumption | apply Ext.allocR | apply Ext.drewR | apply Ext.drewNR | (refine Ext.trans' ?_ (by assumption))))
    rintro e w2 ⟨s, b, c, rfl, hS, hs, hb, hc, hx2⟩
    have hs2 := hx2.size
    have hok := fcfg_ok x hx.s hm1 hm2
    obtain ⟨lb1, lb2⟩ := flv_bd x lv m
    have hCm : (fcfg x m).mode = m := rfl
    generalize fcfg x m = C at *
    generalize flv x lv = LV at *
    generalize fR x = R at *
    generalize fW x = W at *
    have HR := Lib.hid hS.hr
    have HW := Lib.hid hS.hw
    have q6 : w2.cell? ⟨w.heap.size, 6, none⟩ = some (.slice vp us.length vc) := by rw [(bcell hx2).1 _ _ (by omega)]; exact k6
    have hE2 : Ext w w2 := by (repeat' (first | exact Ext.refl _ | assumption | apply Ext.allocR | apply Ext.drewR | apply Ext.drewNR | (refine Ext.trans' ?_ (by assumption))))
    clear hx2 k0 k1 k2 k3 k4 k5 k6
    subst hCm
    go_wp2_with fail
    have w2' := hok.w2
    have w1' := hok.w1
    have r2' := hok.r2
    have r1' := hok.r1
    rw [HR.out] at r1' r2'
    rw [HW.out] at w1' w2'
    have hp0 : (R : Int) * (W : Int) = ((R * W : Nat) : Int) := by simp
    have hpn : R * W ≤ 1024 := Nat.le_trans (Nat.mul_le_mul (show R ≤ 8 by omega) (show W ≤ 128 by omega)) (by decide)
    have hpp : 1 ≤ R * W := Nat.mul_pos (by omega) (by omega)
    generalize hNN : R * W = N at *
    have HNN := Lib.hid hNN
    clear hNN
    have hp1 : 0 ≤ (R : Int) * (W : Int) := by rw [hp0]; omega
    have hp2 : (R : Int) * (W : Int) ≤ 1024 := by rw [hp0]; omega
    have jc := heap_at w2 (.cells #[.int .i64 C.bits, .int .i64 C.rows, .int .i64 C.width, .int .i64 C.mode, .int .u64 C.seed] 24) rfl
    have hEB : Ext w2 (w2.alloc (.cells #[.int .i64 C.bits, .int .i64 C.rows, .int .i64 C.width, .int .i64 C.mode, .int .u64 C.seed] 24)) := Ext.alloc' _ _
    have hzB : (w2.alloc (.cells #[.int .i64 C.bits, .int .i64 C.rows, .int .i64 C.width, .int .i64 C.mode, .int .u64 C.seed] 24)).heap.size = w2.heap.size + 1 := size_alloc _ _
    generalize w2.alloc (.cells #[.int .i64 C.bits, .int .i64 C.rows, .int .i64 C.width, .int .i64 C.mode, .int .u64 C.seed] 24) = wB at *
    have hRow0 : wB.ownsRow (w2.heap.size + 1) 2 1 (.slice none 0 0) (zs 0).length (ints (zs 0)) := ⟨rfl, .inl ⟨rfl, rfl⟩⟩
    have JC := Lib.hid jc
    have HP := Lib.hid hp0
    clear jc hp0
    go_loopw [10, 11] (fun u10 u11 wr => ∃ k : Nat, k ≤ N ∧ u11 = .int .i64 k ∧ wr.ownsRow (w2.heap.size + 1) 2 1 u10 (zs k).length (ints (zs k)) ∧ Ext wB wr) (fun u10 u11 wr => N - (intOf u11).toNat)
    case atStart => exact ⟨0, Nat.zero_le _, rfl, hRow0, Ext.refl _⟩
    case round =>
      clear hRow0
      obtain ⟨k, hk, rfl, hrow, hEr⟩ := hrel
      have hEs := hEr.size
      have qc : wr.heap[w2.heap.size]? = _ := (hEr.block _ (by omega)).trans JC.out
      have c0 := (cell_of qc 0).trans rfl
      have c1 := (cell_of qc 1).trans (show _ = some (Value.int .i64 (R : Int)) by rw [← HR.out]; rfl)
      have c2 := (cell_of qc 2).trans (show _ = some (Value.int .i64 (W : Int)) by rw [← HW.out]; rfl)
      have c3 := (cell_of qc 3).trans rfl
      have c4 := (cell_of qc 4).trans rfl
      by_cases hgo : k < N
      · have hd : decide ((k : Int) < (R : Int) * (W : Int)) = true := by rw [HP.out]; simp; omega
        go_wp2_with (at_builtin; refine wpList_app1 wr 0 _ u10 (w2.heap.size + 1) 2 hrow 32 rfl _ _ rfl info_i64 Try.underlying32 rfl rfl ?a1 ?a2 ?_)
        case a1 => rw [zs_len]; omega
        case a2 => omega
        intro v' w3 h1 h2 h3
        have hE3 : Ext wB w3 := ext_grown hEr h2 (fun k' hk' => by have := (hrow.lt k' hk').1; omega)
        rw [show zs k ++ [0] = zs (k + 1) from (List.replicate_succ' ..).symm] at h1
        clear h2 h3 hrow
        go_wp2
        go_roundw
        case rel => exact ⟨k + 1, by omega, by go_num, h1, hE3⟩
        case measure => simp [intOf]; omega
      · have hd : decide ((k : Int) < (R : Int) * (W : Int)) = false := by rw [HP.out]; simp; omega
        go_wp2_with fail
        obtain rfl : N = k := by omega
        rw [zs_len] at hrow
        obtain ⟨g, cap, cur0, rfl, hgb, hgh, _⟩ := hrow.2.resolve_left (fun h => by omega)
        clear hd c0 c1 c2 c3 c4 qc hgo hk
        rename World => wA
        have hgl := lt_of hgh
        have qA := (hEr.block _ (by omega)).trans JC.out
        have QA := Lib.hid qA
        have q6A : wA.cell? ⟨w.heap.size, 6, none⟩ = some (.slice vp us.length vc) := by rw [(bcell (Ext.trans' hEB hEr)).1 _ _ (by omega)]; exact q6
        have hEA : Ext w wA := by (repeat' (first | exact Ext.refl _ | assumption | apply Ext.allocR | apply Ext.drewR | apply Ext.drewNR | (refine Ext.trans' ?_ (by assumption))))
        have hSA := hS.ext (Ext.trans' hEB hEr)
        have hgs : g ≠ s ∧ g ≠ b ∧ g ≠ c := by
          have a1 := hS.lts
          have a2 := hS.g.ltb
          have a3 := hS.g.ltc
          refine ⟨?_, ?_, ?_⟩ <;> omega
        have hRow : wA.ownsRow (w2.heap.size + 1) 2 1 (.slice (some ⟨g, 0, none⟩) (N) cap) (N) (ints (feed C LV R W (fus us 0 0) (zs (N)))) := by rw [fus_self]; exact hrow
        have hM0 : Mod (fun i => i = g) wA wA := Mod.refl _ _
        have hAs := hEr.size
        clear hrow hgh q6 qA hS
        go_loopw [12] (fun u12 wr => ∃ k : Nat, k ≤ 60 ∧ k ≤ us.length ∧ u12 = .int .i64 k ∧ wr.ownsRow (w2.heap.size + 1) 2 1 (.slice (some ⟨g, 0, none⟩) (N) cap) (N) (ints (feed C LV R W (fus us 0 k) (zs (N)))) ∧ Mod (fun i => i = g) wA wr) (fun u12 wr => 60 - (intOf u12).toNat)
        case atStart => exact ⟨0, Nat.zero_le _, Nat.zero_le _, rfl, hRow, hM0⟩
        case round =>
          clear hM0 hRow
          obtain ⟨k, hk60, hkl, rfl, hrow, hM⟩ := hrel
          have hMs := hM.size
          have q6 := (mcell hM (b := w.heap.size) (by omega) (by omega) 6).trans q6A
          have qc : wr.heap[w2.heap.size]? = _ := (hM.block _ (by omega) (by omega)).trans QA.out
          have c0 := (cell_of qc 0).trans rfl
          have c1 := (cell_of qc 1).trans rfl
          have c2 := (cell_of qc 2).trans rfl
          have c3 := (cell_of qc 3).trans rfl
          have c4 := (cell_of qc 4).trans rfl
          have l1 : w.heap.size < wr.heap.size := by omega
          have l2 : w2.heap.size < wr.heap.size := by omega
          have l3 : g < wr.heap.size := by omega
          by_cases hgo : k < us.length ∧ k < 60
          · obtain ⟨hg1, hg2⟩ := hgo
            obtain ⟨ug, off, ucap, hvv, hul0, hcell⟩ := HV.out.resolve_left (fun h => by rw [h.2] at hg1; simp at hg1)
            obtain ⟨rfl, rfl⟩ : vp = some ⟨ug, off, none⟩ ∧ vc = ucap := by simpa using hvv
            obtain ⟨d0, d1⟩ := hcell k hg1
            have d0 := (mcell hM (b := ug) (by have := hEA.size; omega) (by have := hE2.size; omega) (off + k * 2)).trans (((bcell hEA).1 _ _ hul0).trans d0)
            have d1 := (mcell hM (b := ug) (by have := hEA.size; omega) (by have := hE2.size; omega) (off + k * 2 + 1)).trans (((bcell hEA).1 _ _ hul0).trans d1)
            have hgl2 : ug < wr.heap.size := by have := hEA.size; omega
            have hf := fus_snoc us (Nat.zero_le k) hg1
            have hu := hus _ (List.getElem_mem hg1)
            have hget : us.getD k (0, 0) = us[k] := by simp [hg1]
            rw [hget] at d0 d1 hf
            generalize us[k] = uu at *
            obtain ⟨uk, ud⟩ := uu
            have HF := Lib.hid hf
            have hbd := feed_bnd C LV R W (fus us 0 k)
            rw [HNN.out] at hbd
            have hfl := fus_len us 0 k
            clear hf hget hvv hcell
            go_upto_region 16 with (fail)
            go_cut [13] (fun s13 wx => ∃ bu : Nat, s13 = .pointer (some ⟨bu, 0, none⟩) ∧ wx.heap[bu]? = some (.cells #[.int .u64 (cutK C LV uk), .int .i64 (cutD C.mode ud)] 34 (0, 0)) ∧ Ext wr wx ∧ wr.heap.size ≤ bu)
            case first =>
              have hC0 := af_drew wr
              refine pi_start (fun w' => ∃ x : After wr, w' = x.w) [] (by kernel_rfl) ?_
              refine pi_c 0 (by assumption) rfl (by kernel_rfl) (by kernel_rfl) (fun _ _ _ _ h => h) (fun K hK => ?_)
              go_big_quiet_op
              refine hK _ ?_
              clear hK K
              refine pi_t 1 rfl (by kernel_rfl) (by kernel_rfl) (fun _ _ _ _ h => h) (fun K hK => ?_)
              go_big_quiet_op
              refine hK _ ?_
              clear hK K
              refine pi_t 2 rfl (by kernel_rfl) (by kernel_rfl) (fun _ _ _ _ h => h) (fun K hK => ?_)
              go_big_quiet_op
              refine hK _ ?_
              clear hK K
              refine pi_c 3 (by assumption) rfl (by kernel_rfl) (by kernel_rfl) (fun _ _ _ _ h => h) (fun K hK => ?_)
              go_big_quiet_op
              refine hK _ ?_
              clear hK K
              refine pi_t 4 rfl (by kernel_rfl) (by kernel_rfl) (fun _ _ _ _ h => h) (fun K hK => ?_)
              go_big_quiet_op
              refine hK _ ?_
              clear hK K
              refine pi_t 5 rfl (by kernel_rfl) (by kernel_rfl) (fun _ _ _ _ h => h) (fun K hK => ?_)
              go_big_quiet_op
              refine hK _ ?_
              clear hK K
              refine pi_c 6 (by assumption) rfl (by kernel_rfl) (by kernel_rfl) (fun _ _ _ _ h => h) (fun K hK => ?_)
              go_big_quiet_op
              refine hK _ ?_
              clear hK K
              refine pi_b 7 8 rfl rfl (by kernel_rfl) (fun K hK => ?_) (fun K hK => ?_)
              · go_wp2_with (go_at_call 19; refine (cut_c C hok LV lb1 lb2 uk ud hu.1 hu.2 _).mono ?_; rintro e w3 ⟨rfl, hx3⟩)
                have hx3' : Ext wr w3 := Ext.trans' (Below.drew (Ext.refl wr)) hx3
                have hs3 := hx3'.size
                refine hK _ _ (fun _ h => af_step h hx3) ?_
                clear hK K
                refine pi_l 8 rfl (by kernel_rfl) (fun K hK => ?_)
                go_wp2
                refine hK _ _ (fun _ h => af_step h (Ext.alloc' _ _)) ?_
                clear hK K
                refine pi_l 9 rfl (by kernel_rfl) (fun K hK => ?_)
                go_wp2
                refine hK _ _ (fun _ _ => ⟨⟨_, hx3'.allocR _⟩, rfl⟩) ?_
                clear hK K
                refine pi_end (by kernel_rfl) ?_
                go_wp2_with fail
                go_meet
                exact ⟨w3.heap.size, rfl, heap_at _ _ rfl, hx3'.allocR _, hs3⟩
              · go_wp2
                refine hK _ _ (fun _ h => af_step h (Ext.alloc' _ _)) ?_
                clear hK K
                refine pi_l 7 rfl (by kernel_rfl) (fun K hK => ?_)
                go_wp2_with (go_at_call 19; refine (cut_c C hok LV lb1 lb2 uk ud hu.1 hu.2 _).mono ?_; rintro e w3 ⟨rfl, hx3⟩)
                refine hK _ _ (fun _ h => af_step h hx3) ?_
                clear hK K
                have hs3 : (wr.alloc (.cells #[.int .u64 0, .int .i64 0] 34)).heap.size ≤ w3.heap.size := hx3.size
                rw [size_alloc] at hs3
                have hx3' : Ext wr w3 := Ext.trans' (Ext.alloc' wr _) (Ext.trans' (Below.drew (Ext.refl _)) hx3)
                have hbx : w3.heap[wr.heap.size]? = some (.cells #[.int .u64 0, .int .i64 0] 34 (0, 0)) := by
                  rw [hx3.block _ (by show _ < (wr.alloc _).heap.size; rw [size_alloc]; exact Nat.lt_succ_self _)]
                  exact heap_at wr _ rfl
                have p0 := (cell_of hbx 0).trans rfl
                have p1 := (cell_of hbx 1).trans rfl
                have f0 := frozen_of hbx 0
                have f1 := frozen_of hbx 1
                refine pi_l 9 rfl (by kernel_rfl) (fun K hK => ?_)
                go_wp2
                refine hK _ _ (fun _ _ => ⟨⟨_, (hx3'.setR (Nat.le_refl _) _).setR (Nat.le_refl _) _⟩, rfl⟩) ?_
                clear hK K
                refine pi_end (by kernel_rfl) ?_
                go_wp2_with fail
                go_meet
                exact ⟨wr.heap.size, rfl, set2 hbx _ _, (hx3'.setR (Nat.le_refl _) _).setR (Nat.le_refl _) _, Nat.le_refl _⟩
            case rest =>
              obtain ⟨bu, rfl, hbu, hxw, hbul⟩ := hcut
              have hkb := cutK_bd C hok LV uk lb1
              have hdb := cutD_bd C.mode ud
              have hxs := hxw.size
              have b1 := (cell_of hbu 1).trans rfl
              have b0 := (cell_of hbu 0).trans rfl
              have qcw : wc.heap[w2.heap.size]? = _ := (hxw.block _ l2).trans qc
              have e0 := (cell_of qcw 0).trans rfl
              have e1 := (cell_of qcw 1).trans rfl
              have e2 := (cell_of qcw 2).trans rfl
              have e3 := (cell_of qcw 3).trans rfl
              have e4 := (cell_of qcw 4).trans rfl
              have hbl := lt_of hbu
              have hMx : Mod (fun i => i = g) wA wc := hM.trans (hxw.mod _)
              have hrowx := own_keep hrow (hxw.block _ l3)
              have hnx : feed C LV R W (fus us 0 (k + 1)) (zs (N)) = putK W (cols C LV (cutK C LV uk)) (fun j => (feed C LV R W (fus us 0 k) (zs (N))).getD (at_ W (cols C LV (cutK C LV uk)) j) 0 + cutD C.mode ud) R (feed C LV R W (fus us 0 k) (zs (N))) := by
                rw [HF.out, feed_snoc]
                unfold updL
                rw [decide_eq_false hm3]
                rfl
              generalize cutK C LV uk = key at *
              generalize cutD C.mode ud = dd at *
              clear c0 c1 c2 c3 c4 q6 d0 d1 qc hM hrow
              go_wp2_with fail
              refine Calls.mono (Columns_c C hok LV key lb1 lb2 (by have := hok.b2; omega) hkb.1 hkb.2 _) ?_
              rintro e w4 ⟨v4, rfl, ho4, hx4⟩
              have hcs := cols_meets C hok LV key HR.out HW.out
              have hcl : C.rows.toNat = R := by have := HR.out; omega
              have hne := own_ne ho4 (c := g) (by omega)
              have hv4 := IntsAt.of_row ho4
              obtain ⟨vg, vo, vcap, rfl, hvl, hvc⟩ := hv4.slice (by rw [cols_len]; omega)
              rw [cols_len, hcl] at hvc
              have hx4s := hx4.size
              have hM4 : Mod (fun i => i = g) wA w4 := hMx.trans (by first | exact hx4.mod _ | exact (Ext.trans' (Below.drew (Ext.refl _)) hx4).mod _)
              have hE4 : Ext wc w4 := by (repeat' (first | exact Ext.refl _ | assumption | apply Ext.allocR | apply Ext.drewR | apply Ext.drewNR | (refine Ext.trans' ?_ (by assumption))))
              have hrow4 := own_keep hrowx (hE4.block g (by omega))
              have b1' := ((bcell hE4).1 bu 1 hbl).trans b1
              have B1 := Lib.hid b1'
              have hvg : vg ≠ g := hne _ _ _ _ rfl
              have hvc' : ∀ k, k < R → w4.cell? ⟨vg, vo + k, none⟩ = some (.int .i64 ((cols C LV key).getD k 0)) := hvc
              rw [cols_len, hcl]
              generalize cols C LV key = cs at *
              have CS := Lib.hid hvc'
              generalize feed C LV R W (fus us 0 k) (zs (N)) = L at *
              have HN := Lib.hid hnx
              have hLl : L.length = N := by have := hrow4.1; simpa [ints] using this
              have hbd' : ∀ a, a < N → -65970697666560 ≤ L.getD a 0 ∧ L.getD a 0 ≤ 65970697666560 := by
                intro a ha
                have hg : L.getD a 0 = L[a]'(by omega) := by simp [show a < L.length by omega]
                rw [hg]
                have := hbd _ (List.getElem_mem (l := L) (n := a) (by omega))
                have hl60 : ((fus us 0 k).length : Int) ≤ 60 := by omega
                constructor <;> omega
              have hqw4 : w4.heap[w2.heap.size]? = _ := (hE4.block _ (by omega)).trans qcw
              have QW := Lib.hid hqw4
              have hR0 : w4.ownsRow (w2.heap.size + 1) 2 1 (.slice (some ⟨g, 0, none⟩) (N) cap) (N) (ints (putK W cs (fun j => L.getD (at_ W cs j) 0 + dd) 0 L)) := hrow4
              have hM40 : Mod (fun i => i = g) w4 w4 := Mod.refl _ _
              clear hnx hbd hqw4 hvc hvc' hv4 ho4 hne b0 b1 b1' hrowx hrow4 e0 e1 e2 e3 e4 qcw hx4
              go_wp2_with fail
              go_loopw [15] (fun u15 wr => ∃ r : Nat, r ≤ R ∧ u15 = .int .i64 r ∧ wr.ownsRow (w2.heap.size + 1) 2 1 (.slice (some ⟨g, 0, none⟩) (N) cap) (N) (ints (putK W cs (fun j => L.getD (at_ W cs j) 0 + dd) r L)) ∧ Mod (fun i => i = g) w4 wr) (fun u15 _ => R - (intOf u15).toNat)
              case atStart => exact ⟨0, Nat.zero_le _, rfl, hR0, hM40⟩
              case round =>
                clear hR0 hM40
                rename World => wv
                obtain ⟨r, hr, rfl, hrow, hM⟩ := hrel
                have hMs := hM.size
                have qc : wv.heap[w2.heap.size]? = _ := (hM.block _ (by omega) (by omega)).trans QW.out
                have c1 := (cell_of qc 1).trans (show _ = some (Value.int .i64 (R : Int)) by rw [← HR.out]; rfl)
                have c2 := (cell_of qc 2).trans (show _ = some (Value.int .i64 (W : Int)) by rw [← HW.out]; rfl)
                have l1' : w2.heap.size < wv.heap.size := by omega
                have l2' : bu < wv.heap.size := by omega
                have l3' : g < wv.heap.size := by omega
                have l4' : vg < wv.heap.size := by omega
                by_cases hgo : r < R
                · have d1 := (mcell hM (b := bu) (by omega) (by omega) 1).trans B1.out
                  have pc := (mcell hM (b := vg) (by omega) hvg (vo + r)).trans (CS.out r hgo)
                  have a0 := hcs.lo r hgo
                  have a1 := hcs.hi r hgo
                  have ha := hcs.at_lt hgo
                  rw [HNN.out] at ha
                  have hAt : (r : Int) * (W : Int) + cs.getD r 0 = ((at_ W cs r : Nat) : Int) := by
                    unfold at_
                    rw [Int.natCast_add, Int.natCast_mul, Int.toNat_of_nonneg a0]
                  have hrw0 : (r : Int) * (W : Int) = ((r * W : Nat) : Int) := by simp
                  have hrw3 : r * W ≤ N := HNN.out ▸ Nat.mul_le_mul_right W (by omega)
                  have hrw1 : 0 ≤ (r : Int) * (W : Int) := by rw [hrw0]; omega
                  have hrw2 : (r : Int) * (W : Int) ≤ 1024 := by rw [hrw0]; omega
                  have hsm1 : 0 ≤ (r : Int) * (W : Int) + cs.getD r 0 := by rw [hAt]; omega
                  have hsm2 : (r : Int) * (W : Int) + cs.getD r 0 ≤ 1024 := by rw [hAt]; omega
                  have g1 : decide (((at_ W cs r : Nat) : Int) < 0) = false := by simp
                  have g2 : decide (N ≤ at_ W cs r) = false := by simp; omega
                  have hfar := putK_far (f := fun j => L.getD (at_ W cs j) 0 + dd) hcs L hgo r (Nat.le_refl r)
                  obtain ⟨pw, pf⟩ := own_cell hrow (j := at_ W cs r) (by rw [putK_len, hLl]; exact ha)
                  rw [hfar] at pw
                  obtain ⟨hb1', hb2'⟩ := hbd' _ ha
                  have hput : (putK W cs (fun j => L.getD (at_ W cs j) 0 + dd) r L).set (at_ W cs r) (L.getD (at_ W cs r) 0 + dd) = putK W cs (fun j => L.getD (at_ W cs j) 0 + dd) (r + 1) L := rfl
                  have hrow' := own_put (own_keep hrow (w' := wv) rfl) (at_ W cs r) (L.getD (at_ W cs r) 0 + dd)
                  have HPUT := Lib.hid hput
                  clear hput hrow' hfar hrw0
                  generalize hyy : L.getD (at_ W cs r) 0 = y at *
                  generalize hAA : at_ W cs r = A at *
                  generalize hcc : cs.getD r 0 = cr at *
                  have HAt := Lib.hid hAt
                  clear hAt hyy hAA hcc
                  go_wp2_with fail
                  refine wp_region_after (by kernel_rfl) (by kernel_rfl) ?_
                  repeat (go_big_quiet_step (fail))
                  refine wpQuiet_nil ?_
                  rintro _ ⟨xx, rfl⟩
                  obtain ⟨w5, hb5⟩ := xx
                  try dsimp only
                  rw [HAt.out]
                  have d1' := ((bcell hb5).1 _ _ l2').trans d1
                  have pw' := ((bcell hb5).1 _ _ l3').trans pw
                  have pf' := ((bcell hb5).2 _ _ l3').trans pf
                  have hs5 := hb5.size
                  have l2'' : bu < w5.heap.size := by omega
                  have l3'' : g < w5.heap.size := by omega
                  go_wp2_with fail
                  refine wp_region_after_tail 10 (by kernel_rfl) (by kernel_rfl) ?_
                  simp only [List.take_succ_cons, List.take_zero, List.drop_succ_cons, List.drop_zero]
                  repeat (go_big_quiet_step (fail))
                  refine wpQuiet_nil ?_
                  rintro _ ⟨xx, rfl⟩
                  obtain ⟨w6, hb6⟩ := xx
                  try dsimp only
                  have pw6 := ((bcell hb6).1 _ _ l3'').trans pw'
                  have pf6 := ((bcell hb6).2 _ _ l3'').trans pf'
                  have hb6' : Ext wv w6 := Ext.trans' hb5 hb6
                  go_wp2
                  go_roundw
                  case rel => exact ⟨r + 1, by omega, by go_num, by rw [← HPUT.out]; exact own_put (own_keep hrow (hb6'.block g l3')) _ _, mod_put (hM.trans (hb6'.mod _)) _⟩
                  case measure => simp [intOf]; omega
                · go_wp2_with fail
                  have hrR : r = R := by omega
                  rw [hrR] at hrow
                  go_roundw
                  case rel =>
                    have hMf := hM4.trans hM
                    have hRf := hrow
                    rw [← HN.out] at hRf
                    have k1 : k + 1 ≤ 60 := hg2
                    have k2 : k + 1 ≤ us.length := hg1
                    clear hrow HN HR HW HP QA QW CS B1 HV HF JC hbd' hM hM4 hMx hkb hdb hcs
                    exact ⟨k + 1, k1, k2, by go_num, hRf, hMf⟩
                  case measure => simp [intOf]; omega
          · have hfe := fus_end us (i := 0) (j := 60) (k := k) (by omega) (by omega) (.inr ⟨hk60, hkl⟩) hgo
            have hSr := hSA.keep (hM.block s (by have := hSA.lts; omega) (fun h => hgs.1 h.symm)) (hM.block b (by have := hSA.g.ltb; omega) (fun h => hgs.2.1 h.symm)) (hM.block c (by have := hSA.g.ltc; omega) (fun h => hgs.2.2 h.symm))
            rw [← hfe] at hSr
            have HSR := Lib.hid hSr
            have hEw : Ext w wr := Below.trans hEA (hM.below (B := w.heap.size) (by omega) (fun i hi => by have := hE2.size; omega))
            clear hfe hSr
            go_wp2_with fail
            all_goals
              refine Calls.mono (SCells_c s b c C LV R W _ _ (HSR.out.ext ?hx)) ?_
              case hx => (repeat' (first | exact Ext.refl _ | assumption | apply Ext.allocR | apply Ext.drewR | apply Ext.drewNR | (refine Ext.trans' ?_ (by assumption))))
              rintro e w7 ⟨v7, rfl, ho7, hn7, hx7⟩
              have hlen : (feed C LV R W (fus us 0 k) (zs (N))).length = N := by have := hrow.1; simpa [ints] using this
              have hx7' : Ext wr w7 := by (repeat' (first | exact Ext.refl _ | assumption | apply Ext.allocR | apply Ext.drewR | apply Ext.drewNR | (refine Ext.trans' ?_ (by assumption))))
              have hrow7 := own_keep hrow (hx7'.block g l3)
              have hi7 : IntsAt w7 v7 _ := IntsAt.of_row ho7
              have hj7 := IntsAt.of_row hrow7
              go_wp2_with fail
              refine Calls.mono (Same_c _ _ _ _ _ (hi7.ext ?hx) (hj7.ext ?hy) (by omega) (by omega)) ?_
              case hx => (repeat' (first | exact Ext.refl _ | assumption | apply Ext.allocR | apply Ext.drewR | apply Ext.drewNR | (refine Ext.trans' ?_ (by assumption))))
              case hy => (repeat' (first | exact Ext.refl _ | assumption | apply Ext.allocR | apply Ext.drewR | apply Ext.drewNR | (refine Ext.trans' ?_ (by assumption))))
              rintro e w8 ⟨rfl, hx8⟩
              rw [decide_eq_true rfl]
              go_wp2
              go_ret
              exact ⟨rfl, by (repeat' (first | exact Ext.refl _ | assumption | apply Ext.allocR | apply Ext.drewR | apply Ext.drewNR | (refine Ext.trans' ?_ (by assumption))))⟩
end Go.Proofs.Ythancaehlijaoaa
