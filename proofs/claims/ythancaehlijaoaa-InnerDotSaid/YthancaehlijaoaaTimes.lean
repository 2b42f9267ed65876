/- wide.Times, wide.Less. -/
import Derived.Test.YthancaehlijaoaaWide2
namespace Go.Proofs.Ythancaehlijaoaa
set_option linter.unusedVariables false
open Go.RowKit

theorem mul_abs {a b A B : Int} (ha : -A ≤ a ∧ a ≤ A) (hb : -B ≤ b ∧ b ≤ B) : -(A * B) ≤ a * b ∧ a * b ≤ A * B := by
  have h1 : 0 ≤ (A - a) * (B + b) := Int.mul_nonneg (by omega) (by omega)
  have h2 : 0 ≤ (A + a) * (B - b) := Int.mul_nonneg (by omega) (by omega)
  have h3 : 0 ≤ (A - a) * (B - b) := Int.mul_nonneg (by omega) (by omega)
  have h4 : 0 ≤ (A + a) * (B + b) := Int.mul_nonneg (by omega) (by omega)
  simp only [Int.mul_add, Int.add_mul, Int.sub_mul, Int.mul_sub] at h1 h2 h3 h4
  omega
theorem mul_w {a b : Int} (ha : I64 a) (hb : I64 b) : W128 (a * b) := by
  unfold I64 at ha hb
  have := mul_abs (A := 9223372036854775808) (B := 9223372036854775808) (a := a) (b := b) (by omega) (by omega)
  unfold W128; omega
def uu (a : Int) : Int := a % 18446744073709551616
theorem uu_u (a : Int) : U64 (uu a) := by unfold uu U64; omega
def tmH (a b : Int) (b1 b2 : Bool) : Int :=
  let p := uu a * uu b / 18446744073709551616
  let q := bif b1 then IntKind.u64.wrap (p - uu b) else p
  wrap64 (bif b2 then IntKind.u64.wrap (q - uu a) else q)
theorem tm_hi {a b : Int} (ha : I64 a) (hb : I64 b) {b1 b2 : Bool} (d1 : decide (a < 0) = b1) (d2 : decide (b < 0) = b2) : tmH a b b1 b2 = hi (a * b) := by
  have hw := mul_abs (A := 9223372036854775808) (B := 9223372036854775808) (a := a) (b := b) (by unfold I64 at ha; omega) (by unfold I64 at hb; omega)
  have e2 : (a + 18446744073709551616) * b = a * b + 18446744073709551616 * b := Int.add_mul _ _ _
  have e3 : a * (b + 18446744073709551616) = a * b + a * 18446744073709551616 := Int.mul_add _ _ _
  have e4 : (a + 18446744073709551616) * (b + 18446744073709551616) = a * b + a * 18446744073709551616 + (18446744073709551616 * b + 18446744073709551616 * 18446744073709551616) := by
    rw [Int.add_mul, Int.mul_add, Int.mul_add]
  have ua0 : ¬ a < 0 → uu a = a := fun h => by unfold uu; unfold I64 at ha; omega
  have ua1 : a < 0 → uu a = a + 18446744073709551616 := fun h => by unfold uu; unfold I64 at ha; omega
  have ub0 : ¬ b < 0 → uu b = b := fun h => by unfold uu; unfold I64 at hb; omega
  have ub1 : b < 0 → uu b = b + 18446744073709551616 := fun h => by unfold uu; unfold I64 at hb; omega
  subst d1 d2
  unfold tmH hi wrap64
  simp only [IntKind.wrap_u64]
  unfold I64 at ha hb
  by_cases h1 : a < 0 <;> by_cases h2 : b < 0
  · rw [ua1 h1, ub1 h2, e4]; simp only [h1, h2, decide_true, cond_true]; generalize a * b = t at *; omega
  · rw [ua1 h1, ub0 h2, e2]; simp only [h1, h2, decide_true, decide_false, cond_true, cond_false]; generalize a * b = t at *; omega
  · rw [ua0 h1, ub1 h2, e3]; simp only [h1, h2, decide_true, decide_false, cond_true, cond_false]; generalize a * b = t at *; omega
  · rw [ua0 h1, ub0 h2]; simp only [h1, h2, decide_false, cond_false]; generalize a * b = t at *; omega
theorem tm_lo (a b : Int) : uu a * uu b % 18446744073709551616 = lo (a * b) := by
  unfold uu lo
  rw [← Int.mul_emod]
theorem u64_wrap (a : Int) : IntKind.u64.wrap a = uu a := by rw [IntKind.wrap_u64]; rfl
set_option maxHeartbeats 1000000 in
theorem Times_core (a b : Int) (b1 b2 : Bool) (d1 : decide (a < 0) = b1) (d2 : decide (b < 0) = b2) (w : World) :
    Calls Try.prog 67 #[.int .i64 a, .int .i64 b] w fun e w' => e = .returned (.agg #[.int .i64 (tmH a b b1 b2), .int .u64 (uu a * uu b % 18446744073709551616)]) ∧ Ext w w' := by
  have e1 := u64_wrap a
  have e2 := u64_wrap b
  cases b1 <;> cases b2
  all_goals
    go_enter Try.func67, Try.ntmps67
    go_wp2_with (go_at_call 96; refine (mul64 _ _ (uu_u a) (uu_u b) _).mono ?_; rintro e w' ⟨rfl, rfl⟩)
    exact bodyPost_ret (v := .agg #[.int .i64 (tmH a b _ _), .int .u64 (uu a * uu b % 18446744073709551616)]) (by simp [results, Try.results67, go_sem, tmH]) rfl ⟨rfl, by (repeat' (first | exact Ext.refl _ | assumption | apply Ext.allocR | apply Ext.drewR | apply Ext.drewNR | (refine Ext.trans' ?_ (by assumption))))⟩
theorem Times_c (a b : Int) (ha : I64 a) (hb : I64 b) (w : World) :
    Calls Try.prog 67 #[.int .i64 a, .int .i64 b] w fun e w' => e = .returned (.agg #[.int .i64 (hi (a * b)), .int .u64 (lo (a * b))]) ∧ Ext w w' := by
  have := Times_core a b _ _ rfl rfl w
  rwa [tm_hi ha hb rfl rfl, tm_lo] at this
theorem less_bool (x y : Int) : (decide (hi x < hi y) || ((hi x == hi y) && decide (lo x < lo y))) = decide (x < y) := by
  have hx := hilo x
  have hy := hilo y
  have lx := lo_u x
  have ly := lo_u y
  unfold U64 at lx ly
  rw [Bool.eq_iff_iff]
  simp only [Bool.or_eq_true, Bool.and_eq_true, decide_eq_true_eq, beq_iff_eq]
  omega
set_option maxHeartbeats 1000000 in
theorem Less_core (x y : Int) (b1 b2 b3 : Bool) (d1 : decide (hi x < hi y) = b1) (d2 : (hi x == hi y) = b2) (d3 : decide (lo x < lo y) = b3) (w : World) :
    Calls Try.prog 41 #[.agg #[.int .i64 (hi x), .int .u64 (lo x)], .agg #[.int .i64 (hi y), .int .u64 (lo y)]] w fun e w' => e = .returned (.bool (b1 || (b2 && b3))) ∧ Ext w w' := by
  cases b1 <;> cases b2 <;> cases b3
  all_goals
    go_enter Try.func41, Try.ntmps41
    go_wp2
    go_ret
    exact ⟨rfl, by (repeat' (first | exact Ext.refl _ | assumption | apply Ext.allocR | apply Ext.drewR | apply Ext.drewNR | (refine Ext.trans' ?_ (by assumption))))⟩
theorem Less_c (x y : Int) (w : World) :
    Calls Try.prog 41 #[.agg #[.int .i64 (hi x), .int .u64 (lo x)], .agg #[.int .i64 (hi y), .int .u64 (lo y)]] w fun e w' => e = .returned (.bool (decide (x < y))) ∧ Ext w w' := by
  have := Less_core x y _ _ _ rfl rfl rfl w
  rwa [less_bool] at this
end Go.Proofs.Ythancaehlijaoaa
