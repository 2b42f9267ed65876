/- gaugerref02.OfInt, Plus. -/
import Derived.Test.YthancaehlijaoaaLong
namespace Go.Proofs.Ythancaehlijaoaa
set_option linter.unusedVariables false
open Go.RowKit

theorem uu_dg (n : Int) : uu n % 65536 = dg n 0 ∧ uu n / 65536 % 65536 = dg n 1 ∧ uu n / 4294967296 % 65536 = dg n 2 ∧ uu n / 281474976710656 % 65536 = dg n 3 := hid_lo n
theorem hi_dg (n : Int) (h : I64 n) : ∀ i, 4 ≤ i → i < 10 → dg n i = (bif decide (n < 0) then 65535 else 0) := by
  intro i h1 h2
  unfold I64 at h
  have hc : i = 4 ∨ i = 5 ∨ i = 6 ∨ i = 7 ∨ i = 8 ∨ i = 9 := by omega
  by_cases hx : n < 0 <;> simp only [hx, decide_true, decide_false, cond_true, cond_false] <;> rcases hc with rfl | rfl | rfl | rfl | rfl | rfl
  all_goals first | rw [dg4] | rw [dg5] | rw [dg6] | rw [dg7] | rw [dg8] | rw [dg9]
  all_goals omega
set_option maxRecDepth 20000 in
set_option maxHeartbeats 4000000 in
theorem OfInt_core (n : Int) (b : Bool) (hb : decide (n < 0) = b) (hd : ∀ i, 4 ≤ i → i < 10 → dg n i = (bif b then 65535 else 0)) (w : World) :
    Calls Try.prog 70 #[.int .i64 n] w fun e w' => e = .returned (longV n) ∧ Ext w w' := by
  obtain ⟨y1, y2⟩ := uu_u n
  have e1 := u64_wrap n
  obtain ⟨g0, g1, g2, g3⟩ := uu_dg n
  have a4 := (wa16 (uu n) (uu_u _)).trans g0
  have a5 := (wa16 (uu n / 65536) (div_u (uu_u _) (by decide))).trans g1
  have a6 := (wa16 (uu n / 4294967296) (div_u (uu_u _) (by decide))).trans g2
  have a7 := (wa16 (uu n / 281474976710656) (div_u (uu_u _) (by decide))).trans g3
  have HD := Lib.hid hd
  clear hd g0 g1 g2 g3
  cases b
  all_goals
    go_enter Try.func70, Try.ntmps70
    go_wp2
    refine wp_loop_rounds 11 ?_
    iterate 10
      rw [rounds_succ]
      go_wp2_with fail
    rw [rounds_succ]
    go_wp2_with fail
    refine bodyPost_ret (v := longV n) ?_ rfl ⟨rfl, by (repeat' (first | exact Ext.refl _ | assumption | apply Ext.allocR | apply Ext.drewR | apply Ext.drewNR | (refine Ext.trans' ?_ (by assumption))))⟩
    unfold longV longA
    rw [HD.out 4 (by decide) (by decide), HD.out 5 (by decide) (by decide), HD.out 6 (by decide) (by decide), HD.out 7 (by decide) (by decide), HD.out 8 (by decide) (by decide), HD.out 9 (by decide) (by decide)]
    simp [results, Try.results70, go_sem]
theorem OfInt_c (n : Int) (h : I64 n) (w : World) :
    Calls Try.prog 70 #[.int .i64 n] w fun e w' => e = .returned (longV n) ∧ Ext w w' := OfInt_core n _ rfl (hi_dg n h) w
end Go.Proofs.Ythancaehlijaoaa
