/- gaugerref02.Of, Below: long numbers, by ten digits. -/
import Derived.Test.YthancaehlijaoaaTimes
namespace Go.Proofs.Ythancaehlijaoaa
set_option linter.unusedVariables false
open Go.RowKit

theorem and_16 (x : Int) (h0 : 0 ≤ x) (h1 : x < 18446744073709551616) : bits BinOp.and IntKind.u64 x 65535 = x % 65536 := and_mask x 16 (by decide) h0 h1
theorem w16 (x : Int) : wrap64 (x % 65536) = x % 65536 := by unfold wrap64; omega
theorem wa16 (x : Int) (h : U64 x) : wrap64 (bits BinOp.and IntKind.u64 x 65535) = x % 65536 := by rw [and_16 x h.1 h.2, w16]
/-- A number's digit to base 65536. -/
def dg (x : Int) (i : Nat) : Int := x / (65536 ^ i : Int) % 65536
theorem dg_bd (x : Int) (i : Nat) : 0 ≤ dg x i ∧ dg x i ≤ 65535 := by unfold dg; omega
theorem dg0 (x : Int) : dg x 0 = x % 65536 := by unfold dg; rw [show (65536 : Int) ^ 0 = 1 from rfl]; omega
theorem dg1 (x : Int) : dg x 1 = x / 65536 % 65536 := rfl
theorem dg2 (x : Int) : dg x 2 = x / 4294967296 % 65536 := rfl
theorem dg3 (x : Int) : dg x 3 = x / 281474976710656 % 65536 := rfl
theorem dg4 (x : Int) : dg x 4 = x / 18446744073709551616 % 65536 := rfl
theorem dg5 (x : Int) : dg x 5 = x / 1208925819614629174706176 % 65536 := rfl
theorem dg6 (x : Int) : dg x 6 = x / 79228162514264337593543950336 % 65536 := rfl
theorem dg7 (x : Int) : dg x 7 = x / 5192296858534827628530496329220096 % 65536 := rfl
theorem dg8 (x : Int) : dg x 8 = x / 340282366920938463463374607431768211456 % 65536 := rfl
theorem dg9 (x : Int) : dg x 9 = x / 22300745198530623141535718272648361505980416 % 65536 := rfl
def longA (d : Nat → Int) : Value := .agg #[.int .i64 (d 0), .int .i64 (d 1), .int .i64 (d 2), .int .i64 (d 3), .int .i64 (d 4), .int .i64 (d 5), .int .i64 (d 6), .int .i64 (d 7), .int .i64 (d 8), .int .i64 (d 9)]
def longV (x : Int) : Value := longA (dg x)
theorem hid_lo (x : Int) : lo x % 65536 = dg x 0 ∧ lo x / 65536 % 65536 = dg x 1 ∧ lo x / 4294967296 % 65536 = dg x 2 ∧ lo x / 281474976710656 % 65536 = dg x 3 := by
  rw [dg0, dg1, dg2, dg3]; unfold lo
  refine ⟨?_, ?_, ?_, ?_⟩ <;> omega
theorem hid_hi (x : Int) : uu (hi x) % 65536 = dg x 4 ∧ uu (hi x) / 65536 % 65536 = dg x 5 ∧ uu (hi x) / 4294967296 % 65536 = dg x 6 ∧ uu (hi x) / 281474976710656 % 65536 = dg x 7 := by
  rw [dg4, dg5, dg6, dg7]; unfold uu hi
  refine ⟨?_, ?_, ?_, ?_⟩ <;> omega
theorem hid_top (x : Int) (h : W128 x) : dg x 8 = (bif decide (hi x < 0) then 65535 else 0) ∧ dg x 9 = (bif decide (hi x < 0) then 65535 else 0) := by
  rw [dg8, dg9]
  simp only [hi_neg]
  unfold W128 at h
  by_cases hx : x < 0 <;> simp only [hx, decide_true, decide_false, cond_true, cond_false] <;> omega
theorem div_u {x k : Int} (h : U64 x) (hk : 1 ≤ k) : U64 (x / k) := by
  refine ⟨Int.ediv_nonneg h.1 (by omega), ?_⟩
  have := Int.ediv_le_self k h.1
  have := h.2
  omega
set_option maxRecDepth 20000 in
set_option maxHeartbeats 4000000 in
theorem Of_core (x : Int) (b : Bool) (hb : decide (hi x < 0) = b) (h8 : dg x 8 = (bif b then 65535 else 0)) (h9 : dg x 9 = (bif b then 65535 else 0)) (w : World) :
    Calls Try.prog 44 #[.agg #[.int .i64 (hi x), .int .u64 (lo x)]] w fun e w' => e = .returned (longV x) ∧ Ext w w' := by
  have hl := lo_u x
  have hh := uu_u (hi x)
  obtain ⟨x1, x2⟩ := hl
  obtain ⟨y1, y2⟩ := hh
  have e1 := u64_wrap (hi x)
  obtain ⟨l0, l1, l2, l3⟩ := hid_lo x
  obtain ⟨g0, g1, g2, g3⟩ := hid_hi x
  have a0 := (wa16 (lo x) (lo_u x)).trans l0
  have a1 := (wa16 (lo x / 65536) (div_u (lo_u x) (by decide))).trans l1
  have a2 := (wa16 (lo x / 4294967296) (div_u (lo_u x) (by decide))).trans l2
  have a3 := (wa16 (lo x / 281474976710656) (div_u (lo_u x) (by decide))).trans l3
  have a4 := (wa16 (uu (hi x)) (uu_u _)).trans g0
  have a5 := (wa16 (uu (hi x) / 65536) (div_u (uu_u _) (by decide))).trans g1
  have a6 := (wa16 (uu (hi x) / 4294967296) (div_u (uu_u _) (by decide))).trans g2
  have a7 := (wa16 (uu (hi x) / 281474976710656) (div_u (uu_u _) (by decide))).trans g3
  have H8 := Lib.hid h8
  have H9 := Lib.hid h9
  clear h8 h9 l0 l1 l2 l3 g0 g1 g2 g3
  go_enter Try.func44, Try.ntmps44
  go_wp2
  refine wp_loop_rounds 5 ?_
  rw [rounds_succ]
  go_wp2_with fail
  rw [rounds_succ]
  go_wp2_with fail
  rw [rounds_succ]
  go_wp2_with fail
  rw [rounds_succ]
  go_wp2_with fail
  rw [rounds_succ]
  cases b
  all_goals
    go_wp2_with fail
    refine bodyPost_ret (v := longV x) ?_ rfl ⟨rfl, by (repeat' (first | exact Ext.refl _ | assumption | apply Ext.allocR | apply Ext.drewR | apply Ext.drewNR | (refine Ext.trans' ?_ (by assumption))))⟩
    unfold longV longA
    rw [H8.out, H9.out]
    simp [results, Try.results44, go_sem]
theorem LOf_c (x : Int) (h : W128 x) (w : World) :
    Calls Try.prog 44 #[.agg #[.int .i64 (hi x), .int .u64 (lo x)]] w fun e w' => e = .returned (longV x) ∧ Ext w w' :=
  Of_core x _ rfl (hid_top x h).1 (hid_top x h).2 w
set_option maxHeartbeats 1000000 in
theorem Below_c (d : Nat → Int) (h0 : 0 ≤ d 9) (h1 : d 9 ≤ 65535) (w : World) :
    Calls Try.prog 43 #[longA d] w fun e w' => e = .returned (.bool (decide (32768 ≤ d 9))) ∧ Ext w w' := by
  unfold longA
  go_enter Try.func43, Try.ntmps43
  go_wp2
  go_ret
  exact ⟨rfl, by (repeat' (first | exact Ext.refl _ | assumption | apply Ext.allocR | apply Ext.drewR | apply Ext.drewNR | (refine Ext.trans' ?_ (by assumption))))⟩
theorem LBelow_c (x : Int) (h : W128 x) (w : World) :
    Calls Try.prog 43 #[longV x] w fun e w' => e = .returned (.bool (decide (hi x < 0))) ∧ Ext w w' := by
  have hd := dg_bd x 9
  have := Below_c (dg x) hd.1 hd.2 w
  have e : decide (32768 ≤ dg x 9) = decide (hi x < 0) := by
    rw [(hid_top x h).2]
    cases decide (hi x < 0) <;> rfl
  rw [e] at this
  exact this
end Go.Proofs.Ythancaehlijaoaa
