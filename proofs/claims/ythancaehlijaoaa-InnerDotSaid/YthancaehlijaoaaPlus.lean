/- gaugerref02.Plus. -/
import Derived.Test.YthancaehlijaoaaLong2
import Derived.Test.YthancaehlijaoaaRefs2
namespace Go.Proofs.Ythancaehlijaoaa
set_option linter.unusedVariables false
open Go.RowKit

theorem fill10 (s : Nat → Int) : fillA s 10 10 = #[.int .i64 (s 0), .int .i64 (s 1), .int .i64 (s 2), .int .i64 (s 3), .int .i64 (s 4), .int .i64 (s 5), .int .i64 (s 6), .int .i64 (s 7), .int .i64 (s 8), .int .i64 (s 9)] := by
  apply Array.ext
  · simp [fillA]
  · intro i h1 h2
    have hi : i < 10 := by simpa [fillA] using h1
    have hc : i = 0 ∨ i = 1 ∨ i = 2 ∨ i = 3 ∨ i = 4 ∨ i = 5 ∨ i = 6 ∨ i = 7 ∨ i = 8 ∨ i = 9 := by omega
    rcases hc with rfl | rfl | rfl | rfl | rfl | rfl | rfl | rfl | rfl | rfl <;> simp [fillA]
theorem fillz (s : Nat → Int) : fillA s 0 10 = #[.int .i64 0, .int .i64 0, .int .i64 0, .int .i64 0, .int .i64 0, .int .i64 0, .int .i64 0, .int .i64 0, .int .i64 0, .int .i64 0] := by
  apply Array.ext
  · simp [fillA]
  · intro i h1 h2
    have hi : i < 10 := by simpa [fillA] using h1
    have hc : i = 0 ∨ i = 1 ∨ i = 2 ∨ i = 3 ∨ i = 4 ∨ i = 5 ∨ i = 6 ∨ i = 7 ∨ i = 8 ∨ i = 9 := by omega
    rcases hc with rfl | rfl | rfl | rfl | rfl | rfl | rfl | rfl | rfl | rfl <;> simp [fillA]
set_option maxRecDepth 20000 in
set_option maxHeartbeats 8000000 in
theorem Plus_core (a b s c : Nat → Int) (ha : ∀ i, i < 10 → 0 ≤ a i ∧ a i ≤ 65535) (hb : ∀ i, i < 10 → 0 ≤ b i ∧ b i ≤ 65535) (hc : ∀ i, i < 10 → 0 ≤ c i ∧ c i ≤ 1) (h0 : c 0 = 0)
    (hs : ∀ i, i < 10 → (a i + b i + c i) % 65536 = s i) (hn : ∀ i, i < 10 → (a i + b i + c i) / 65536 = c (i + 1)) (w : World) :
    Calls Try.prog 68 #[longA a, longA b] w fun e w' => e = .returned (longA s) ∧ Ext w w' := by
  obtain ⟨a0l, a0h⟩ := ha 0 (by decide)
  obtain ⟨b0l, b0h⟩ := hb 0 (by decide)
  obtain ⟨c0l, c0h⟩ := hc 0 (by decide)
  have s0 := hs 0 (by decide)
  have n0 := hn 0 (by decide)
  obtain ⟨a1l, a1h⟩ := ha 1 (by decide)
  obtain ⟨b1l, b1h⟩ := hb 1 (by decide)
  obtain ⟨c1l, c1h⟩ := hc 1 (by decide)
  have s1 := hs 1 (by decide)
  have n1 := hn 1 (by decide)
  obtain ⟨a2l, a2h⟩ := ha 2 (by decide)
  obtain ⟨b2l, b2h⟩ := hb 2 (by decide)
  obtain ⟨c2l, c2h⟩ := hc 2 (by decide)
  have s2 := hs 2 (by decide)
  have n2 := hn 2 (by decide)
  obtain ⟨a3l, a3h⟩ := ha 3 (by decide)
  obtain ⟨b3l, b3h⟩ := hb 3 (by decide)
  obtain ⟨c3l, c3h⟩ := hc 3 (by decide)
  have s3 := hs 3 (by decide)
  have n3 := hn 3 (by decide)
  obtain ⟨a4l, a4h⟩ := ha 4 (by decide)
  obtain ⟨b4l, b4h⟩ := hb 4 (by decide)
  obtain ⟨c4l, c4h⟩ := hc 4 (by decide)
  have s4 := hs 4 (by decide)
  have n4 := hn 4 (by decide)
  obtain ⟨a5l, a5h⟩ := ha 5 (by decide)
  obtain ⟨b5l, b5h⟩ := hb 5 (by decide)
  obtain ⟨c5l, c5h⟩ := hc 5 (by decide)
  have s5 := hs 5 (by decide)
  have n5 := hn 5 (by decide)
  obtain ⟨a6l, a6h⟩ := ha 6 (by decide)
  obtain ⟨b6l, b6h⟩ := hb 6 (by decide)
  obtain ⟨c6l, c6h⟩ := hc 6 (by decide)
  have s6 := hs 6 (by decide)
  have n6 := hn 6 (by decide)
  obtain ⟨a7l, a7h⟩ := ha 7 (by decide)
  obtain ⟨b7l, b7h⟩ := hb 7 (by decide)
  obtain ⟨c7l, c7h⟩ := hc 7 (by decide)
  have s7 := hs 7 (by decide)
  have n7 := hn 7 (by decide)
  obtain ⟨a8l, a8h⟩ := ha 8 (by decide)
  obtain ⟨b8l, b8h⟩ := hb 8 (by decide)
  obtain ⟨c8l, c8h⟩ := hc 8 (by decide)
  have s8 := hs 8 (by decide)
  have n8 := hn 8 (by decide)
  obtain ⟨a9l, a9h⟩ := ha 9 (by decide)
  obtain ⟨b9l, b9h⟩ := hb 9 (by decide)
  obtain ⟨c9l, c9h⟩ := hc 9 (by decide)
  have s9 := hs 9 (by decide)
  have n9 := hn 9 (by decide)
  rw [h0, Int.add_zero] at s0 n0
  simp only [Nat.reduceAdd] at n0 n1 n2 n3 n4 n5 n6 n7 n8 n9
  unfold longA
  clear ha hb hc hs hn h0 c0l c0h
  generalize a 0 = A0 at *
  generalize b 0 = B0 at *
  generalize s 0 = S0 at *
  generalize a 1 = A1 at *
  generalize b 1 = B1 at *
  generalize s 1 = S1 at *
  generalize a 2 = A2 at *
  generalize b 2 = B2 at *
  generalize s 2 = S2 at *
  generalize a 3 = A3 at *
  generalize b 3 = B3 at *
  generalize s 3 = S3 at *
  generalize a 4 = A4 at *
  generalize b 4 = B4 at *
  generalize s 4 = S4 at *
  generalize a 5 = A5 at *
  generalize b 5 = B5 at *
  generalize s 5 = S5 at *
  generalize a 6 = A6 at *
  generalize b 6 = B6 at *
  generalize s 6 = S6 at *
  generalize a 7 = A7 at *
  generalize b 7 = B7 at *
  generalize s 7 = S7 at *
  generalize a 8 = A8 at *
  generalize b 8 = B8 at *
  generalize s 8 = S8 at *
  generalize a 9 = A9 at *
  generalize b 9 = B9 at *
  generalize s 9 = S9 at *
  generalize c 1 = C1 at *
  generalize c 2 = C2 at *
  generalize c 3 = C3 at *
  generalize c 4 = C4 at *
  generalize c 5 = C5 at *
  generalize c 6 = C6 at *
  generalize c 7 = C7 at *
  generalize c 8 = C8 at *
  generalize c 9 = C9 at *
  generalize c 10 = C10 at *
  go_enter Try.func68, Try.ntmps68
  go_wp2_with fail
  refine wp_loop_rounds 11 ?_
  iterate 10
    rw [rounds_succ]
    go_wp2_with fail
    go_region
    go_wp2_with fail
  rw [rounds_succ]
  go_wp2_with fail
  refine bodyPost_ret (v := .agg #[.int .i64 S0, .int .i64 S1, .int .i64 S2, .int .i64 S3, .int .i64 S4, .int .i64 S5, .int .i64 S6, .int .i64 S7, .int .i64 S8, .int .i64 S9]) ?_ rfl ⟨rfl, by (repeat' (first | exact Ext.refl _ | assumption | apply Ext.allocR | apply Ext.drewR | apply Ext.drewNR | (refine Ext.trans' ?_ (by assumption))))⟩
  simp [results, Try.results68, go_sem]
/-- The carry of a sum. -/
def cr (x y : Int) (i : Nat) : Int := (x % (65536 ^ i : Int) + y % (65536 ^ i : Int)) / (65536 ^ i : Int)
theorem pw_pos (i : Nat) : 0 < (65536 ^ i : Int) := Int.pow_pos (by decide)
theorem cr_bd (x y : Int) (i : Nat) : 0 ≤ cr x y i ∧ cr x y i ≤ 1 := by
  have hp := pw_pos i
  unfold cr
  generalize (65536 ^ i : Int) = M at *
  have h1 := Int.emod_nonneg x (show M ≠ 0 by omega)
  have h2 := Int.emod_lt_of_pos x hp
  have h3 := Int.emod_nonneg y (show M ≠ 0 by omega)
  have h4 := Int.emod_lt_of_pos y hp
  refine ⟨Int.ediv_nonneg (by omega) (by omega), ?_⟩
  have : (x % M + y % M) / M < 2 := Int.ediv_lt_of_lt_mul hp (by omega)
  omega
theorem mod_mul' (x M : Int) (hM : 0 < M) : x % (M * 65536) = x % M + M * (x / M % 65536) := by
  have h1 := Int.emod_add_mul_ediv x M
  have h2 := Int.emod_add_mul_ediv (x / M) 65536
  have h3 : x / M / 65536 = x / (M * 65536) := by rw [Int.ediv_ediv_of_nonneg (by omega)]
  have h4 := Int.emod_add_mul_ediv x (M * 65536)
  rw [← h3] at h4
  have h5 : M * 65536 * (x / M / 65536) = M * (65536 * (x / M / 65536)) := Int.mul_assoc _ _ _
  have h6 : M * (x / M) = M * (x / M % 65536) + M * (65536 * (x / M / 65536)) := by rw [← Int.mul_add, h2]
  omega
theorem plus_step (x y : Int) (i : Nat) : (dg x i + dg y i + cr x y i) % 65536 = dg (x + y) i ∧ (dg x i + dg y i + cr x y i) / 65536 = cr x y (i + 1) := by
  have hp := pw_pos i
  unfold dg cr
  rw [Int.pow_succ]
  generalize (65536 ^ i : Int) = M at *
  rw [mod_mul' x M hp, mod_mul' y M hp]
  have ex := Int.emod_add_mul_ediv x M
  have ey := Int.emod_add_mul_ediv y M
  have hd : x + y = (x % M + y % M) + M * (x / M + y / M) := by rw [Int.mul_add]; omega
  constructor
  · rw [hd, Int.add_mul_ediv_left _ _ (show M ≠ 0 by omega)]
    generalize (x % M + y % M) / M = c
    omega
  · have e1 : x % M + M * (x / M % 65536) + (y % M + M * (y / M % 65536)) = (x % M + y % M) + M * (x / M % 65536 + y / M % 65536) := by rw [Int.mul_add]; omega
    rw [e1, ← Int.ediv_ediv_of_nonneg (by omega), Int.add_mul_ediv_left _ _ (show M ≠ 0 by omega)]
    congr 1
    omega
theorem cr0 (x y : Int) : cr x y 0 = 0 := by
  unfold cr
  rw [show ((65536 : Int) ^ 0) = 1 from rfl]
  omega
theorem LPlus_c (x y : Int) (w : World) : Calls Try.prog 68 #[longV x, longV y] w fun e w' => e = .returned (longV (x + y)) ∧ Ext w w' :=
  Plus_core (dg x) (dg y) (dg (x + y)) (cr x y) (fun i _ => dg_bd x i) (fun i _ => dg_bd y i) (fun i _ => cr_bd x y i) (cr0 x y) (fun i _ => (plus_step x y i).1) (fun i _ => (plus_step x y i).2) w
end Go.Proofs.Ythancaehlijaoaa
