/- The calls of package wide tell sums and differences, where they fit. Numbers of 128 bits. -/
import Derived.Test.YthancaehlijaoaaField
import Derived.Test.YthancaehlijaoaaTools
import Derived.Test.YthancaehlijaoaaTail
namespace Go.Proofs.Ythancaehlijaoaa
set_option linter.unusedVariables false
open Go.RowKit

def hi (x : Int) : Int := x / 18446744073709551616
def lo (x : Int) : Int := x % 18446744073709551616
theorem lo_u (x : Int) : U64 (lo x) := by unfold lo U64; omega
theorem hilo (x : Int) : hi x * 18446744073709551616 + lo x = x := by unfold hi lo; omega
def W128 (x : Int) : Prop := -170141183460469231731687303715884105728 ≤ x ∧ x ≤ 170141183460469231731687303715884105727
theorem hi_i (x : Int) (h : W128 x) : I64 (hi x) := by unfold hi I64; unfold W128 at h; omega
theorem w_of_i {x : Int} (h : I64 x) : W128 x := by unfold I64 at h; unfold W128; omega
set_option maxHeartbeats 400000 in
theorem Of_c (n : Int) (h : I64 n) (w : World) :
    Calls Try.prog 40 #[.int .i64 n] w fun e w' => e = .returned (.agg #[.int .i64 (hi n), .int .u64 (lo n)]) ∧ Ext w w' := by
  obtain ⟨h0, h1⟩ := h
  have e1 : n / 9223372036854775808 = hi n := by unfold hi; omega
  have e2 : IntKind.u64.wrap n = lo n := by rw [IntKind.wrap_u64]; rfl
  go_enter Try.func40, Try.ntmps40
  go_wp2
  exact bodyPost_ret (v := .agg #[.int .i64 (hi n), .int .u64 (lo n)]) (by simp [results, Try.results40, go_sem]) rfl ⟨rfl, (Below.refl _ _).alloc (Nat.le_refl _) _⟩
theorem w64_lo (x : Int) (h : I64 x) : wrap64 (lo x) = x := by
  unfold I64 at h; unfold lo wrap64; omega
theorem w64_i (x : Int) : I64 (wrap64 x) := by unfold I64 wrap64; omega
theorem hi_ne (x : Int) (h : ¬ I64 x) : hi (wrap64 (lo x)) ≠ hi x := by
  unfold I64 at h; unfold hi lo wrap64; omega
set_option maxHeartbeats 1000000 in
theorem Int_yes (x : Int) (h : I64 x) (w : World) :
    Calls Try.prog 118 #[.agg #[.int .i64 (hi x), .int .u64 (lo x)]] w fun e w' => e = .returned (.tuple #[.int .i64 x, .bool true]) ∧ Ext w w' := by
  have e1 := w64_lo x h
  go_enter Try.func118, Try.ntmps118
  go_wp2
  refine wp_region_after (by kernel_rfl) (by kernel_rfl) ?_
  repeat (go_big_quiet_step ((go_at_call 40; exact quiet_after (Of_c _ h _))))
  refine wpQuiet_nil ?_
  rintro _ ⟨xx, rfl⟩
  obtain ⟨w1, hb1⟩ := xx
  try dsimp only
  go_wp2
  go_ret2
  exact ⟨by show Ending.returned (.tuple #[.int .i64 (wrap64 (lo x)), .bool true]) = _; rw [e1], by (repeat' (first | exact Ext.refl _ | assumption | apply Ext.allocR | apply Ext.drewR | apply Ext.drewNR | (refine Ext.trans' ?_ (by assumption))))⟩
set_option maxHeartbeats 1000000 in
theorem Int_no (x : Int) (h : ¬ I64 x) (w : World) :
    Calls Try.prog 118 #[.agg #[.int .i64 (hi x), .int .u64 (lo x)]] w fun e w' => e = .returned (.tuple #[.int .i64 0, .bool false]) ∧ Ext w w' := by
  have e1 : (hi (wrap64 (lo x)) == hi x) = false := by simpa using hi_ne x h
  have e2 : (hi (wrap64 (lo x)) = hi x) = False := by simpa using hi_ne x h
  go_enter Try.func118, Try.ntmps118
  go_wp2
  refine wp_region_after (by kernel_rfl) (by kernel_rfl) ?_
  repeat (go_big_quiet_step ((go_at_call 40; exact quiet_after (Of_c _ (w64_i _) _))))
  refine wpQuiet_nil ?_
  rintro _ ⟨xx, rfl⟩
  obtain ⟨w1, hb1⟩ := xx
  try dsimp only
  go_wp2
  go_ret2
  exact ⟨rfl, by (repeat' (first | exact Ext.refl _ | assumption | apply Ext.allocR | apply Ext.drewR | apply Ext.drewNR | (refine Ext.trans' ?_ (by assumption))))⟩
theorem hi_neg (x : Int) : (hi x < 0) = (x < 0) := by unfold hi; exact propext ⟨fun h => by omega, fun h => by omega⟩
theorem add_hi (x y : Int) (hx : W128 x) (hy : W128 y) : (hi x % 18446744073709551616 + hi y % 18446744073709551616 + (lo x + lo y) / 18446744073709551616) % 18446744073709551616 = hi (x + y) % 18446744073709551616 := by
  unfold hi lo; omega
theorem add_lo (x y : Int) : (lo x + lo y) % 18446744073709551616 = lo (x + y) := by unfold lo; omega
theorem wu0 (x : Int) : 0 ≤ IntKind.u64.wrap x := by rw [IntKind.wrap_u64]; omega
def car (x y : Int) : Int := (lo x + lo y) / 18446744073709551616
def hu (x : Int) : Int := hi x % 18446744073709551616
theorem add64_lo (x y : Int) (w : World) : (callFunc 79 #[.int .u64 (lo x), .int .u64 (lo y), .int .u64 0]).run Try.prog w =
    .ok (.value (.tuple #[.int .u64 (lo (x + y)), .int .u64 (car x y)])) w := by
  obtain ⟨x1, x2⟩ := lo_u x
  obtain ⟨y1, y2⟩ := lo_u y
  rw [add64_0 _ _ x1 y1, add_lo]; rfl
def car2 (x y : Int) : Int := (IntKind.u64.wrap (hi x) + IntKind.u64.wrap (hi y) + car x y) / 18446744073709551616
theorem add64_hi (x y : Int) (w : World) : (callFunc 79 #[.int .u64 (IntKind.u64.wrap (hi x)), .int .u64 (IntKind.u64.wrap (hi y)), .int .u64 (car x y)]).run Try.prog w =
    .ok (.value (.tuple #[.int .u64 (hu (x + y)), .int .u64 (car2 x y)])) w := by
  obtain ⟨x1, x2⟩ := lo_u x
  obtain ⟨y1, y2⟩ := lo_u y
  rw [add64 _ _ _ (wu0 _) (wu0 _) (by unfold car; omega) (by unfold car; omega)]
  rw [show (IntKind.u64.wrap (hi x) + IntKind.u64.wrap (hi y) + car x y) % 18446744073709551616 = hu (x + y) by rw [IntKind.wrap_u64, IntKind.wrap_u64]; unfold car hu hi lo; omega]
  rfl
theorem w64_hu (x : Int) (h : W128 x) : wrap64 (hu x) = hi x := by unfold W128 at h; unfold hu hi wrap64; omega
def sumOk (b1 b2 b3 : Bool) : Bool := !(b1 == b2 && b3 != b1)
def addV (x y r : Int) (ok : Bool) : Value := bif ok then .tuple #[.agg #[.int .i64 r, .int .u64 (lo (x + y))], .bool true] else .tuple #[.agg #[.int .i64 0, .int .u64 0], .bool false]
set_option maxHeartbeats 1000000 in
theorem Add_core (x y r : Int) (b1 b2 b3 : Bool) (hr : wrap64 (hu (x + y)) = r) (d1 : decide (hi x < 0) = b1) (d2 : decide (hi y < 0) = b2) (d3 : decide (r < 0) = b3) (w : World) :
    Calls Try.prog 42 #[.agg #[.int .i64 (hi x), .int .u64 (lo x)], .agg #[.int .i64 (hi y), .int .u64 (lo y)]] w fun e w' => e = .returned (addV x y r (sumOk b1 b2 b3)) ∧ Ext w w' := by
  cases b1 <;> cases b2 <;> cases b3
  all_goals
    go_enter Try.func42, Try.ntmps42
    go_wp2_with (first | simp only [add64_lo] | simp only [add64_hi])
    exact bodyPost_ret (v := addV x y r (sumOk _ _ _)) (by simp [results, Try.results42, go_sem, addV, sumOk, *]) rfl ⟨rfl, by (repeat' (first | exact Ext.refl _ | assumption | apply Ext.allocR | apply Ext.drewR | apply Ext.drewNR | (refine Ext.trans' ?_ (by assumption))))⟩
theorem sumOk_yes (x y : Int) (hx : W128 x) (hy : W128 y) (h : W128 (x + y)) : sumOk (decide (hi x < 0)) (decide (hi y < 0)) (decide (hi (x + y) < 0)) = true := by
  simp only [hi_neg]
  unfold sumOk
  by_cases a : x < 0 <;> by_cases b : y < 0 <;> by_cases c : x + y < 0 <;> simp [a, b, c] <;> omega
theorem sumOk_no (x y : Int) (hx : W128 x) (hy : W128 y) (h : ¬ W128 (x + y)) : sumOk (decide (hi x < 0)) (decide (hi y < 0)) (decide (wrap64 (hu (x + y)) < 0)) = false := by
  have e : (wrap64 (hu (x + y)) < 0) = ¬ (x + y < 0) := by
    unfold W128 at h hx hy; unfold hu hi wrap64
    exact propext ⟨fun h => by omega, fun h => by omega⟩
  simp only [hi_neg, e]
  unfold sumOk W128 at *
  by_cases a : x < 0 <;> by_cases b : y < 0 <;> by_cases c : x + y < 0 <;> simp [a, b, c] <;> omega
theorem Add_yes (x y : Int) (hx : W128 x) (hy : W128 y) (h : W128 (x + y)) (w : World) :
    Calls Try.prog 42 #[.agg #[.int .i64 (hi x), .int .u64 (lo x)], .agg #[.int .i64 (hi y), .int .u64 (lo y)]] w fun e w' => e = .returned (.tuple #[.agg #[.int .i64 (hi (x + y)), .int .u64 (lo (x + y))], .bool true]) ∧ Ext w w' := by
  have := Add_core x y _ _ _ _ (w64_hu _ h) rfl rfl rfl w
  rwa [sumOk_yes x y hx hy h] at this
theorem Add_no (x y : Int) (hx : W128 x) (hy : W128 y) (h : ¬ W128 (x + y)) (w : World) :
    Calls Try.prog 42 #[.agg #[.int .i64 (hi x), .int .u64 (lo x)], .agg #[.int .i64 (hi y), .int .u64 (lo y)]] w fun e w' => e = .returned (.tuple #[.agg #[.int .i64 0, .int .u64 0], .bool false]) ∧ Ext w w' := by
  have := Add_core x y _ _ _ _ rfl rfl rfl rfl w
  rwa [sumOk_no x y hx hy h] at this
end Go.Proofs.Ythancaehlijaoaa
