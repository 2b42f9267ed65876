/- The calls math/bits.Add64, Sub64, Mul64, field.Fold, Add, Mul tell what they compute, in any world, and leave it. Each number lies below 2 to the power of 64. -/
import Derived.Test.YthancaehlijaoaaBase
import Derived.Shelf.Bits.Mul64
import Derived.Laws.Externs
import Derived.Shelf.Spec.BitsCarry
namespace Go.Proofs.Ythancaehlijaoaa
open Go.RowKit Go.Shelf

def lays264_ren : Go.Shelf.Ren := ⟨fun | 264 => 96 | n => n, fun | 53 => 22 | 46 => 120 | n => n, fun | n => n⟩
theorem lays264 : Go.Proofs.Lays.n264 Try.prog lays264_ren := {
  mixed := by kernel_rfl
  f264 := Try.func96.trans (congrArg some (by kernel_rfl))
  t46 := Try.underlying120
  a46 := Try.isAgg120
  z46 := Try.sizeOf120
  v46 := Try.zeroValue120
  t53 := Try.underlying22
  a53 := Try.isAgg22
  z53 := Try.sizeOf22
  v53 := Try.zeroValue22 }
theorem mul64 (x y : Int) (hx : U64 x) (hy : U64 y) (w : World) :
    Calls Try.prog 96 #[.int .u64 x, .int .u64 y] w fun e w' => e = .returned (.tuple #[.int .u64 (x * y / 18446744073709551616), .int .u64 (x * y % 18446744073709551616)]) ∧ w = w' := by
  obtain ⟨hx0, hx1⟩ := hx
  obtain ⟨hy0, hy1⟩ := hy
  obtain ⟨x, rfl⟩ := Int.eq_ofNat_of_zero_le hx0
  obtain ⟨y, rfl⟩ := Int.eq_ofNat_of_zero_le hy0
  refine (Any.bits_Mul64 lays264 x y (by omega) (by omega) w).mono ?_
  rintro e w' ⟨he, hw⟩
  exact ⟨he, hw.symm⟩

theorem add64 (x y c : Int) (hx : 0 ≤ x) (hy : 0 ≤ y) (hc0 : 0 ≤ c) (hc : c ≤ 1) (w : World) : (callFunc 79 #[.int .u64 x, .int .u64 y, .int .u64 c]).run Try.prog w =
    .ok (.value (.tuple #[.int .u64 ((x + y + c) % 18446744073709551616), .int .u64 ((x + y + c) / 18446744073709551616)])) w := by
  rw [run_callFunc_extern Try.func79 (by kernel_rfl) (by kernel_rfl) (by kernel_rfl) (e := add64Entry) (by kernel_rfl), run_add64 x y c hx hy hc0 hc]
  rfl
theorem add64_0 (x y : Int) (hx : 0 ≤ x) (hy : 0 ≤ y) (w : World) : (callFunc 79 #[.int .u64 x, .int .u64 y, .int .u64 0]).run Try.prog w =
    .ok (.value (.tuple #[.int .u64 ((x + y) % 18446744073709551616), .int .u64 ((x + y) / 18446744073709551616)])) w := by
  simpa using add64 x y 0 hx hy (Int.le_refl 0) (by decide) w
def bor (x y : Int) : Int := if x < y then 1 else 0
theorem sub64 (x y b : Int) (hx : 0 ≤ x) (hy : 0 ≤ y) (hy' : y < 18446744073709551616) (hb0 : 0 ≤ b) (hb : b ≤ 1) (w : World) : (callFunc 129 #[.int .u64 x, .int .u64 y, .int .u64 b]).run Try.prog w =
    .ok (.value (.tuple #[.int .u64 ((x - y - b) % 18446744073709551616), .int .u64 (bor x (y + b))])) w := by
  obtain ⟨x, rfl⟩ := Int.eq_ofNat_of_zero_le hx
  obtain ⟨y, rfl⟩ := Int.eq_ofNat_of_zero_le hy
  obtain ⟨b, rfl⟩ := Int.eq_ofNat_of_zero_le hb0
  have e1 : (((x + 18446744073709551616 - y - b) % 18446744073709551616 : Nat) : Int) = ((x : Int) - y - b) % 18446744073709551616 := by omega
  have e2 : ((if x < y + b then 1 else 0 : Nat) : Int) = bor (x : Int) (y + b) := by unfold bor; split <;> split <;> omega
  rw [← e1, ← e2]
  rw [run_callFunc_extern Try.func129 (by kernel_rfl) (by kernel_rfl) (by kernel_rfl) (e := sub64Entry) (by kernel_rfl), run_sub64 x y b (by omega)]
  rfl
theorem sub64_0 (x y : Int) (hx : 0 ≤ x) (hy : 0 ≤ y) (hy' : y < 18446744073709551616) (w : World) : (callFunc 129 #[.int .u64 x, .int .u64 y, .int .u64 0]).run Try.prog w =
    .ok (.value (.tuple #[.int .u64 ((x - y) % 18446744073709551616), .int .u64 (bor x y)])) w := by
  simpa using sub64 x y 0 hx hy hy' (Int.le_refl 0) (by decide) w

/-! field -/
def fold (x : Int) : Int := x % 2305843009213693951
theorem fold_bd (x : Int) : 0 ≤ fold x ∧ fold x < 2305843009213693951 := by unfold fold; omega
theorem fold_u (x : Int) : U64 (fold x) := by unfold fold U64; omega
set_option maxHeartbeats 400000 in
theorem Fold_c (x : Int) (h : U64 x) (w : World) :
    Calls Try.prog 123 #[.int .u64 x] w fun e w' => e = .returned (.int .u64 (fold x)) ∧ w = w' := by
  obtain ⟨h0, h1⟩ := h
  have e1 := and_P x h0 h1
  go_enter Try.func123, Try.ntmps123
  go_wp2
  all_goals
    go_ret
    exact ⟨ret_int (by show _ = x % 2305843009213693951; omega), rfl⟩
def fadd (a b : Int) : Int := fold (fold a + fold b)
set_option maxHeartbeats 400000 in
theorem Fadd_c (a b : Int) (ha : U64 a) (hb : U64 b) (w : World) :
    Calls Try.prog 112 #[.int .u64 a, .int .u64 b] w fun e w' => e = .returned (.int .u64 (fadd a b)) ∧ w = w' := by
  obtain ⟨a1, a2⟩ := fold_bd a
  obtain ⟨b1, b2⟩ := fold_bd b
  go_enter Try.func112, Try.ntmps112
  go_wp2_with (go_at_call 123; refine (Fold_c _ (by first | assumption | (unfold U64; omega)) _).mono ?_; rintro e w' ⟨rfl, rfl⟩)
  go_ret
  exact ⟨rfl, rfl⟩
def fmul (a b : Int) : Int := fadd (fold a * fold b / 2305843009213693952) (fold a * fold b % 2305843009213693952)
theorem mul_lt (a b : Int) (ha : 0 ≤ a) (ha' : a < 2305843009213693951) (hb : 0 ≤ b) (hb' : b < 2305843009213693951) : 0 ≤ a * b ∧ a * b < 2305843009213693951 * 2305843009213693951 := by
  refine ⟨Int.mul_nonneg ha hb, ?_⟩
  rcases Int.lt_or_eq_of_le hb with h | h
  · exact Int.lt_of_lt_of_le (Int.mul_lt_mul_of_pos_right ha' h) (Int.mul_le_mul_of_nonneg_left (Int.le_of_lt hb') (by decide))
  · rw [← h]; simp
set_option maxHeartbeats 400000 in
theorem Fmul_c (a b : Int) (ha : U64 a) (hb : U64 b) (w : World) :
    Calls Try.prog 113 #[.int .u64 a, .int .u64 b] w fun e w' => e = .returned (.int .u64 (fmul a b)) ∧ w = w' := by
  obtain ⟨a1, a2⟩ := fold_bd a
  obtain ⟨b1, b2⟩ := fold_bd b
  obtain ⟨m1, m2⟩ := mul_lt _ _ a1 a2 b1 b2
  have e3 : fold a * fold b % 18446744073709551616 / 2305843009213693952 < 8 := by omega
  have e4 : 0 ≤ fold a * fold b % 18446744073709551616 / 2305843009213693952 := by omega
  have e5 : bits BinOp.or IntKind.u64 (fold a * fold b / 18446744073709551616 * 8) (fold a * fold b % 18446744073709551616 / 2305843009213693952) = fold a * fold b / 2305843009213693952 := by
    rw [or_add _ _ 3 (by decide) (by omega) (by omega) ⟨fold a * fold b / 18446744073709551616, by omega⟩ (by omega) (by omega)]
    omega
  have e6 : bits BinOp.and IntKind.u64 (fold a * fold b % 18446744073709551616) 2305843009213693951 = fold a * fold b % 2305843009213693952 := by
    rw [and_P _ (by omega) (by omega)]; omega
  have e7 : IntKind.u64.wrap (fold a * fold b / 18446744073709551616 * 8) = fold a * fold b / 18446744073709551616 * 8 := IntWalk.u64_in _ (by omega)
  go_enter Try.func113, Try.ntmps113
  go_wp2_with (first
    | (go_at_call 123; refine (Fold_c _ (by assumption) _).mono ?_; rintro e w' ⟨rfl, rfl⟩)
    | (go_at_call 96; refine (mul64 _ _ (fold_u _) (fold_u _) _).mono ?_; rintro e w' ⟨rfl, rfl⟩)
    | (go_at_call 112; refine (Fadd_c _ _ (by unfold U64; omega) (by unfold U64; omega) _).mono ?_; rintro e w' ⟨rfl, rfl⟩))
  go_ret
  exact ⟨rfl, rfl⟩
theorem fadd_u (a b : Int) : U64 (fadd a b) := fold_u _
theorem fmul_u (a b : Int) : U64 (fmul a b) := fold_u _
theorem fadd_eq (a b : Int) : fadd a b = (a + b) % 2305843009213693951 := by unfold fadd fold; omega
theorem fmul_eq (a b : Int) : fmul a b = (a * b) % 2305843009213693951 := by
  unfold fmul
  rw [fadd_eq]
  have : (a * b) % 2305843009213693951 = (fold a * fold b) % 2305843009213693951 := by unfold fold; rw [← Int.mul_emod]
  rw [this]
  omega
end Go.Proofs.Ythancaehlijaoaa
