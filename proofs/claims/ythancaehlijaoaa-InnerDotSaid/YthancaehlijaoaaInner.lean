/- inner.Inner: the least product of two rows. -/
import Derived.Test.YthancaehlijaoaaDot
import Derived.Test.YthancaehlijaoaaRefs
import Derived.Test.YthancaehlijaoaaMerge
import Derived.Test.YthancaehlijaoaaBoxes
import Derived.Test.YthancaehlijaoaaJoinLaw
namespace Go.Proofs.Ythancaehlijaoaa
set_option linter.unusedVariables false
open Go.RowKit

def zw : Value := .agg #[.int .i64 0, .int .u64 0]
theorem Dot_no (p1 p2 : Option Addr) (n1 c1 n2 c2 : Nat) (w : World) (hn : n1 ≠ n2) (h1 : n1 ≤ 1152921504606846976) (h2 : n2 ≤ 1152921504606846976) :
    Calls Try.prog 31 #[.slice p1 n1 c1, .slice p2 n2 c2] w fun e w' => e = .returned (.tuple #[.agg #[.int .i64 0, .int .u64 0], .bool false]) ∧ Ext w w' := by
  have hne : ((n1 : Int) != (n2 : Int)) = true := by simp; omega
  go_enter Try.func31, Try.ntmps31
  go_wp2_with fail
  refine bodyPost_ret (v := .tuple #[.agg #[.int .i64 0, .int .u64 0], .bool false]) (by simp [results, Try.results31, go_sem]) rfl ⟨rfl, by (repeat' (first | exact Ext.refl _ | assumption | apply Ext.allocR | apply Ext.drewR | apply Ext.drewNR | (refine Ext.trans' ?_ (by assumption))))⟩
def rowP (l : List Int) (W r : Nat) : List Int := (List.range W).map fun k => l.getD (r * W + k) 0
theorem rowP_len (l : List Int) (W r : Nat) : (rowP l W r).length = W := by simp [rowP]
theorem rowP_get (l : List Int) {W r k : Nat} (h : k < W) : (rowP l W r).getD k 0 = l.getD (r * W + k) 0 := by simp [rowP, h]
theorem rowP_all {l : List Int} (h : allI l) (W r : Nat) : ∀ x ∈ rowP l W r, I64 x := by
  intro x hx
  simp only [rowP, List.mem_map, List.mem_range] at hx
  obtain ⟨k, _, rfl⟩ := hx
  exact getD_i64 h _
/-- The least of the products of the first r rows, if each fits. -/
def innF (l m : List Int) (W : Nat) : Nat → Option Int
  | 0 => some 0
  | r + 1 => (innF l m W r).bind fun best => (dotF (rowP l W r) (rowP m W r) W).bind fun n => some (bif decide (r = 0) || decide (n < best) then n else best)
theorem innF_w {l m : List Int} {W : Nat} : ∀ {r : Nat} {s : Int}, innF l m W r = some s → W128 s := by
  intro r
  induction r with
  | zero => intro s h; cases h; unfold W128; omega
  | succ r ih =>
    intro s h
    simp only [innF] at h
    cases hb : innF l m W r with
    | none => rw [hb] at h; cases h
    | some best =>
      cases hd : dotF (rowP l W r) (rowP m W r) W with
      | none => rw [hb, hd] at h; cases h
      | some n =>
        rw [hb, hd] at h
        simp only [Option.bind_some] at h
        cases hc : (decide (r = 0) || decide (n < best)) with
        | false => rw [hc] at h; cases h; exact ih hb
        | true => rw [hc] at h; cases h; exact dotF_w hd
theorem innF_none {l m : List Int} {W r : Nat} (h : innF l m W r = none) : ∀ {n : Nat}, r ≤ n → innF l m W n = none := by
  intro n hn
  induction n with
  | zero => obtain rfl : r = 0 := by omega
            exact h
  | succ n ih =>
    rcases Nat.lt_or_ge n r with h1 | h1
    · obtain rfl : r = n + 1 := by omega
      exact h
    · simp only [innF, ih h1, Option.bind_none]
def innV : Option Int → Value
  | some s => .tuple #[.agg #[.int .i64 (hi s), .int .u64 (lo s)], .int .i64 0]
  | none => .tuple #[.agg #[.int .i64 0, .int .u64 0], .int .i64 4]
theorem Inner_nil1 (p : Option Addr) (w : World) :
    Calls Try.prog 37 #[.pointer none, .pointer p] w fun e w' => e = .returned (.tuple #[.agg #[.int .i64 0, .int .u64 0], .int .i64 5]) ∧ Ext w w' := by
  go_enter Try.func37, Try.ntmps37
  go_wp2_with fail
  refine bodyPost_ret (v := .tuple #[.agg #[.int .i64 0, .int .u64 0], .int .i64 5]) (by simp [results, Try.results37, go_sem]) rfl ⟨rfl, by (repeat' (first | exact Ext.refl _ | assumption | apply Ext.allocR | apply Ext.drewR | apply Ext.drewNR | (refine Ext.trans' ?_ (by assumption))))⟩
theorem Inner_nil2 (s : Nat) (w : World) :
    Calls Try.prog 37 #[.pointer (some ⟨s, 0, none⟩), .pointer none] w fun e w' => e = .returned (.tuple #[.agg #[.int .i64 0, .int .u64 0], .int .i64 5]) ∧ Ext w w' := by
  go_enter Try.func37, Try.ntmps37
  go_wp2_with fail
  refine bodyPost_ret (v := .tuple #[.agg #[.int .i64 0, .int .u64 0], .int .i64 5]) (by simp [results, Try.results37, go_sem]) rfl ⟨rfl, by (repeat' (first | exact Ext.refl _ | assumption | apply Ext.allocR | apply Ext.drewR | apply Ext.drewNR | (refine Ext.trans' ?_ (by assumption))))⟩
theorem zbox {w0 wx : World} {b : Nat} (h : w0.heap[b]? = some (.cells #[.int .i64 0, .int .u64 0] 56 (0, 0))) (hE : Ext w0 wx) :
    wx.cell? ⟨b, 0, none⟩ = some (.int .i64 0) ∧ wx.cell? ⟨b, 1, none⟩ = some (.int .u64 0) ∧ wx.frozen? ⟨b, 0, none⟩ = false ∧ wx.frozen? ⟨b, 1, none⟩ = false ∧ b < wx.heap.size :=
  have h' := hE.keep h
  ⟨(cell_of h' 0).trans rfl, (cell_of h' 1).trans rfl, frozen_of h' 0, frozen_of h' 1, lt_of h'⟩
set_option maxRecDepth 20000 in
set_option maxHeartbeats 4000000 in
theorem Inner_unlike (s b c s2 b2 c2 : Nat) (C C2 : Cfg) (lv lv2 : Int) (R W R2 W2 : Nat) (l l2 : List Int) (w : World) (h : SAt w s b c C lv R W l) (h2 : SAt w s2 b2 c2 C2 lv2 R2 W2 l2) (hp : PartsAt C lv C2 lv2) :
    Calls Try.prog 37 #[.pointer (some ⟨s, 0, none⟩), .pointer (some ⟨s2, 0, none⟩)] w fun e w' => e = .returned (.tuple #[.agg #[.int .i64 0, .int .u64 0], .int .i64 5]) ∧ Ext w w' := by
  have H := Lib.hid h
  have H2 := Lib.hid h2
  clear h h2
  go_enter Try.func37, Try.ntmps37
  go_upto_region 1 with (fail)
  have hz0 := heap_at w (.cells #[.int .i64 0, .int .u64 0] 56) rfl
  have hE0 : Ext w (w.alloc (.cells #[.int .i64 0, .int .u64 0] 56)) := Ext.alloc' _ _
  generalize w.alloc (.cells #[.int .i64 0, .int .u64 0] 56) = w0 at *
  have HZ0 := Lib.hid hz0
  clear hz0
  go_cut [34] (fun s34 wx => s34 = .bool true ∧ Ext w0 wx)
  case first =>
    cases hp
    all_goals
      go_wp2_with (first | (go_at_call 52; refine (SConfig_c s b c C lv R W l _ (H.out.ext (by (repeat' (first | exact Ext.refl _ | assumption | apply Ext.allocR | apply Ext.drewR | apply Ext.drewNR | (refine Ext.trans' ?_ (by assumption))))))).mono ?_; rintro e w1 ⟨rfl, hb1⟩) | (go_at_call 52; refine (SConfig_c s2 b2 c2 C2 lv2 R2 W2 l2 _ (H2.out.ext (by (repeat' (first | exact Ext.refl _ | assumption | apply Ext.allocR | apply Ext.drewR | apply Ext.drewNR | (refine Ext.trans' ?_ (by assumption))))))).mono ?_; rintro e w2 ⟨rfl, hb2⟩) | (go_at_call 53; refine (SLevel_c s b c C lv R W l _ (H.out.ext (by (repeat' (first | exact Ext.refl _ | assumption | apply Ext.allocR | apply Ext.drewR | apply Ext.drewNR | (refine Ext.trans' ?_ (by assumption))))))).mono ?_; rintro e w3 ⟨rfl, rfl⟩) | (go_at_call 53; refine (SLevel_c s2 b2 c2 C2 lv2 R2 W2 l2 _ (H2.out.ext (by (repeat' (first | exact Ext.refl _ | assumption | apply Ext.allocR | apply Ext.drewR | apply Ext.drewNR | (refine Ext.trans' ?_ (by assumption))))))).mono ?_; rintro e w4 ⟨rfl, rfl⟩))
      go_meet
      exact ⟨by first | rfl | simp [bne, *], by (repeat' (first | exact Ext.refl _ | assumption | apply Ext.allocR | apply Ext.drewR | apply Ext.drewNR | (refine Ext.trans' ?_ (by assumption))))⟩
  case rest =>
    obtain ⟨rfl, hEc⟩ := hcut
    obtain ⟨p0, p1, f0, f1, hl⟩ := zbox HZ0.out hEc
    go_wp2_with fail
    refine bodyPost_ret (v := .tuple #[.agg #[.int .i64 0, .int .u64 0], .int .i64 5]) (by simp [results, Try.results37, go_sem, *]) rfl ⟨rfl, ?_⟩
    exact ((hE0.trans' hEc).setR (Nat.le_refl _) _).setR (Nat.le_refl _) _
set_option maxRecDepth 20000 in
set_option maxHeartbeats 4000000 in
theorem Inner_mode (s b c s2 b2 c2 : Nat) (C : Cfg) (lv : Int) (R W : Nat) (l l2 : List Int) (w : World) (h : SAt w s b c C lv R W l) (h2 : SAt w s2 b2 c2 C lv R W l2) (hm : C.mode ≠ 1) :
    Calls Try.prog 37 #[.pointer (some ⟨s, 0, none⟩), .pointer (some ⟨s2, 0, none⟩)] w fun e w' => e = .returned (.tuple #[.agg #[.int .i64 0, .int .u64 0], .int .i64 3]) ∧ Ext w w' := by
  have H := Lib.hid h
  have H2 := Lib.hid h2
  have hm' : (C.mode != 1) = true := by simpa using hm
  clear h h2 hm
  go_enter Try.func37, Try.ntmps37
  go_upto_region 1 with (fail)
  have hz0 := heap_at w (.cells #[.int .i64 0, .int .u64 0] 56) rfl
  have hE0 : Ext w (w.alloc (.cells #[.int .i64 0, .int .u64 0] 56)) := Ext.alloc' _ _
  generalize w.alloc (.cells #[.int .i64 0, .int .u64 0] 56) = w0 at *
  have HZ0 := Lib.hid hz0
  clear hz0
  go_cut [34] (fun s34 wx => s34 = .bool false ∧ Ext w0 wx)
  case first =>
    go_wp2_with (first | (go_at_call 52; refine (SConfig_c s b c C lv R W l _ (H.out.ext (by (repeat' (first | exact Ext.refl _ | assumption | apply Ext.allocR | apply Ext.drewR | apply Ext.drewNR | (refine Ext.trans' ?_ (by assumption))))))).mono ?_; rintro e w1 ⟨rfl, hb1⟩) | (go_at_call 52; refine (SConfig_c s2 b2 c2 C lv R W l2 _ (H2.out.ext (by (repeat' (first | exact Ext.refl _ | assumption | apply Ext.allocR | apply Ext.drewR | apply Ext.drewNR | (refine Ext.trans' ?_ (by assumption))))))).mono ?_; rintro e w2 ⟨rfl, hb2⟩) | (go_at_call 53; refine (SLevel_c s b c C lv R W l _ (H.out.ext (by (repeat' (first | exact Ext.refl _ | assumption | apply Ext.allocR | apply Ext.drewR | apply Ext.drewNR | (refine Ext.trans' ?_ (by assumption))))))).mono ?_; rintro e w3 ⟨rfl, rfl⟩) | (go_at_call 53; refine (SLevel_c s2 b2 c2 C lv R W l2 _ (H2.out.ext (by (repeat' (first | exact Ext.refl _ | assumption | apply Ext.allocR | apply Ext.drewR | apply Ext.drewNR | (refine Ext.trans' ?_ (by assumption))))))).mono ?_; rintro e w4 ⟨rfl, rfl⟩))
    go_meet
    exact ⟨by first | rfl | simp, by (repeat' (first | exact Ext.refl _ | assumption | apply Ext.allocR | apply Ext.drewR | apply Ext.drewNR | (refine Ext.trans' ?_ (by assumption))))⟩
  case rest =>
    obtain ⟨rfl, hEc⟩ := hcut
    go_wp2_with fail
    refine Calls.mono (SConfig_c s b c C lv R W l _ (H.out.ext ?hx)) ?_
    case hx => (repeat' (first | exact Ext.refl _ | assumption | apply Ext.allocR | apply Ext.drewR | apply Ext.drewNR | (refine Ext.trans' ?_ (by assumption))))
    rintro e w1 ⟨rfl, hb1⟩
    have hE1 : Ext w0 w1 := by (repeat' (first | exact Ext.refl _ | assumption | apply Ext.allocR | apply Ext.drewR | apply Ext.drewNR | (refine Ext.trans' ?_ (by assumption))))
    obtain ⟨p0, p1, f0, f1, hl⟩ := zbox HZ0.out hE1
    go_wp2_with fail
    refine bodyPost_ret (v := .tuple #[.agg #[.int .i64 0, .int .u64 0], .int .i64 3]) (by simp [results, Try.results37, go_sem, *]) rfl ⟨rfl, ?_⟩
    exact (((hE0.trans' hE1).setR (p := ⟨w.heap.size, 0, none⟩) (Nat.le_refl _) _).setR (p := ⟨w.heap.size, 1, none⟩) (Nat.le_refl _) _).allocR _
end Go.Proofs.Ythancaehlijaoaa
