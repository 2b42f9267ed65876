/- wide.Sum, Plus, Minus tell the sum, or the difference, where it fits. -/
import Derived.Test.YthancaehlijaoaaWide
import Derived.Test.YthancaehlijaoaaPi
namespace Go.Proofs.Ythancaehlijaoaa
set_option linter.unusedVariables false
open Go.RowKit

def fitB (x : Int) : Bool := decide (-9223372036854775808 ≤ x ∧ x ≤ 9223372036854775807)
def fitN (x : Int) : Int := bif fitB x then x else 0
theorem fitB_yes {x : Int} (h : I64 x) : fitB x = true := decide_eq_true h
theorem fitB_no {x : Int} (h : ¬ I64 x) : fitB x = false := decide_eq_false h
theorem fitN_yes {x : Int} (h : I64 x) : fitN x = x := by unfold fitN; rw [fitB_yes h]; rfl
theorem fitN_i (x : Int) : I64 (fitN x) := by
  unfold fitN
  cases h : fitB x with
  | false => show I64 0; unfold I64; omega
  | true => exact of_decide_eq_true (p := -9223372036854775808 ≤ x ∧ x ≤ 9223372036854775807) h
theorem Int_c (x : Int) (w : World) :
    Calls Try.prog 118 #[.agg #[.int .i64 (hi x), .int .u64 (lo x)]] w fun e w' => e = .returned (.tuple #[.int .i64 (fitN x), .bool (fitB x)]) ∧ Ext w w' := by
  by_cases h : I64 x
  · rw [fitB_yes h, fitN_yes h]; exact Int_yes x h w
  · have := Int_no x h w
    unfold fitN
    rw [fitB_no h]; exact this
theorem pre_w (xs : List Int) (hI : ∀ x ∈ xs, I64 x) (hl : xs.length ≤ 1152921504606846976) (k : Nat) : W128 (lsum (xs.take k)) := by
  have h := lsum_bd (l := xs.take k) (B := 9223372036854775808) (by decide) (fun x hx => by have := hI x (List.mem_of_mem_take hx); unfold I64 at this; omega)
  have h2 : (xs.take k).length ≤ xs.length := List.length_take_le' _ _
  unfold W128
  generalize hg : ((xs.take k).length : Int) = m at *
  have hm : m ≤ 1152921504606846976 := by omega
  have : m * 9223372036854775808 ≤ 1152921504606846976 * 9223372036854775808 := Int.mul_le_mul_of_nonneg_right hm (by decide)
  omega
set_option maxHeartbeats 2000000 in
theorem Sum_c (xs : List Int) (v : Value) (w : World) (hI : ∀ x ∈ xs, I64 x) (hl : xs.length ≤ 1152921504606846976) (hv : IntsAt w v xs) :
    Calls Try.prog 108 #[v] w fun e w' => e = .returned (.tuple #[.int .i64 (fitN (lsum xs)), .bool (fitB (lsum xs))]) ∧ Ext w w' := by
  obtain ⟨n, hn⟩ : ∃ n, n = xs.length := ⟨_, rfl⟩
  have HN := Lib.hid hn
  rw [← hn] at hl
  rcases hv with ⟨rfl, rfl⟩ | ⟨g, off, cap, rfl, hg, hc⟩
  · clear hn
    go_enter Try.func108, Try.ntmps108
    go_wp2
    refine wp_loop_rounds 1 ?_
    rw [rounds_succ]
    go_wp2_with fail
    refine (Int_c 0 _).mono ?_
    rintro e w1 ⟨rfl, hb⟩
    go_wp2
    go_ret2
    refine ⟨rfl, by (repeat' (first | exact Ext.refl _ | assumption | apply Ext.allocR | apply Ext.drewR | apply Ext.drewNR | (refine Ext.trans' ?_ (by assumption))))⟩
  · rw [← hn]
    rw [← hn] at hc
    have HC := Lib.hid hc
    clear hc hn
    go_enter Try.func108, Try.ntmps108
    go_wp2
    go_loopw [9] (fun v wr => ∃ k : Nat, k ≤ n ∧ v = .int .i64 k ∧ Ext w wr ∧ w.heap.size < wr.heap.size ∧ wr.heap[w.heap.size]? = some (.cells #[.int .i64 (hi (lsum (xs.take k))), .int .u64 (lo (lsum (xs.take k)))] 56 (0, 0))) (fun v _ => n - (intOf v).toNat)
    case atStart => exact ⟨0, Nat.zero_le _, rfl, Ext.alloc' _ _, by simp only [size_alloc]; omega, heap_at _ _ rfl⟩
    case round =>
      obtain ⟨k, hk, rfl, hx, hlt, hgg⟩ := hrel
      have c0 := cell_of hgg 0
      have c1 := cell_of hgg 1
      simp at c0 c1
      have f0 := frozen_of hgg 0
      have f1 := frozen_of hgg 1
      have HG := Lib.hid hgg
      clear hgg
      by_cases hlt2 : k < n
      · have d := ((bcell hx).1 g (off + k) hg).trans (HC.out k hlt2)
        have hkl : k < xs.length := by rw [← HN.out]; exact hlt2
        have hi1 := hI _ (getD_mem hkl)
        have hw0 := pre_w xs hI (by rw [← HN.out]; exact hl) k
        have hw1 := pre_w xs hI (by rw [← HN.out]; exact hl) (k + 1)
        have hs := lsum_snoc hkl
        rw [hs] at hw1
        generalize xs.getD k 0 = y at d hi1 hs hw1
        have HS := Lib.hid hs
        clear hs
        go_wp2
        have hC0 := af_drew wr
        refine pi_start (fun w' => ∃ x : After wr, w' = x.w) [7] (by kernel_rfl) ?_
        refine pi_t 1 rfl (by kernel_rfl) (by kernel_rfl) (fun _ _ _ _ h => h) (fun K hK => ?_)
        go_big_quiet_op
        refine hK _ ?_
        clear hK K
        refine pi_c 0 (by assumption) rfl (by kernel_rfl) (by kernel_rfl) (fun _ _ _ _ h => h) (fun K hK => ?_)
        go_big_quiet_op
        refine hK _ ?_
        clear hK K
        refine pi_l 2 rfl (by kernel_rfl) (fun K hK => ?_)
        go_wp2_with (go_at_call 40; refine (Of_c _ hi1 _).mono ?_; rintro e w0 ⟨rfl, hb0⟩)
        refine hK _ _ (fun _ h => af_step h hb0) ?_
        clear hK K
        refine pi_l 3 rfl (by kernel_rfl) (fun K hK => ?_)
        go_wp2_with (go_at_call 42; refine (Add_yes _ _ hw0 (w_of_i hi1) hw1 _).mono ?_; rintro e w1 ⟨rfl, hb1'⟩)
        have hb1 : Ext wr w1 := by (repeat' (first | exact Ext.refl _ | assumption | apply Ext.allocR | apply Ext.drewR | apply Ext.drewNR | (refine Ext.trans' ?_ (by assumption))))
        refine hK _ _ (fun _ h => af_step h hb1') ?_
        clear hK K hb1' hb0
        refine pi_t 4 rfl (by kernel_rfl) (by kernel_rfl) (fun _ _ _ _ h => h) (fun K hK => ?_)
        go_big_quiet_op
        refine hK _ ?_
        clear hK K
        refine pi_t 5 rfl (by kernel_rfl) (by kernel_rfl) (fun _ _ _ _ h => h) (fun K hK => ?_)
        go_big_quiet_op
        refine hK _ ?_
        clear hK K
        refine pi_t 6 rfl (by kernel_rfl) (by kernel_rfl) (fun _ _ _ _ h => h) (fun K hK => ?_)
        go_big_quiet_op
        refine hK _ ?_
        clear hK K
        refine pi_l 7 rfl (by kernel_rfl) (fun K hK => ?_)
        have hg1 := hb1.keep HG.out
        have hz := hb1.size
        have p0 := cell_of hg1 0
        have p1 := cell_of hg1 1
        simp at p0 p1
        have q0 := frozen_of hg1 0
        have q1 := frozen_of hg1 1
        have HG1 := Lib.hid hg1
        clear hg1 c0 c1 f0 f1
        go_wp2
        refine hK _ _ (fun h => absurd h (by decide)) ?_
        clear hK K
        refine pi_end (by kernel_rfl) ?_
        go_wp2
        go_roundw
        case rel => exact ⟨k + 1, by omega, by go_num, ((hx.trans' hb1).setR (Nat.le_refl _) _).setR (Nat.le_refl _) _, by rw [size_setCell, size_setCell]; omega, by rw [setCell_same (setCell_same HG1.out 0 _) 1 _, HS.out]; rfl⟩
        case measure => simp [intOf]; omega
      · go_wp2_with fail
        refine (Int_c _ _).mono ?_
        rintro e w1 ⟨rfl, hb⟩
        go_wp2
        go_ret2
        refine ⟨?_, by (repeat' (first | exact Ext.refl _ | assumption | apply Ext.allocR | apply Ext.drewR | apply Ext.drewNR | (refine Ext.trans' ?_ (by assumption))))⟩
        obtain rfl : k = n := by omega
        rw [HN.out, List.take_length]
        rfl
theorem hide_le {n : Nat} (h : n ≤ 1152921504606846976) : Hid (n ≤ 1152921504606846976) := h
set_option maxHeartbeats 1000000 in
theorem Plus_c (a b : Int) (ha : I64 a) (hb : I64 b) (w : World) :
    Calls Try.prog 84 #[.int .i64 a, .int .i64 b] w fun e w' => e = .returned (.tuple #[.int .i64 (fitN (a + b)), .bool (fitB (a + b))]) ∧ Ext w w' := by
  have hs : lsum [a, b] = a + b := by rw [lsum_cons, lsum_cons, lsum_nil]; omega
  have HS := Lib.hid hs
  clear hs
  go_enter Try.func84, Try.ntmps84
  go_wp2_with fail
  refine (Sum_c [a, b] _ _ (by intro x hx; simp at hx; rcases hx with rfl | rfl <;> assumption) (by simp) (.inr ⟨_, 0, 2, rfl, ?_, ?_⟩)).mono ?_
  · simp only [size_alloc]; omega
  · intro k hk
    have : k = 0 ∨ k = 1 := by simp at hk; omega
    rcases this with rfl | rfl <;> simp [go_sem]
  rintro e w1 ⟨rfl, hb1⟩
  rw [HS.out]
  go_wp2
  go_ret2
  exact ⟨rfl, by (repeat' (first | exact Ext.refl _ | assumption | apply Ext.allocR | apply Ext.drewR | apply Ext.drewNR | (refine Ext.trans' ?_ (by assumption))))⟩
def bw (x y : Int) : Int := bor (lo x) (lo y)
theorem sub64_lo (x y : Int) (w : World) : (callFunc 129 #[.int .u64 (lo x), .int .u64 (lo y), .int .u64 0]).run Try.prog w =
    .ok (.value (.tuple #[.int .u64 (lo (x - y)), .int .u64 (bw x y)])) w := by
  obtain ⟨x1, x2⟩ := lo_u x
  obtain ⟨y1, y2⟩ := lo_u y
  rw [sub64_0 _ _ x1 y1 y2, show (lo x - lo y) % 18446744073709551616 = lo (x - y) by unfold lo; omega]; rfl
def bw2 (x y : Int) : Int := bor (IntKind.u64.wrap (hi x)) (IntKind.u64.wrap (hi y) + bw x y)
theorem sub64_hi (x y : Int) (w : World) : (callFunc 129 #[.int .u64 (IntKind.u64.wrap (hi x)), .int .u64 (IntKind.u64.wrap (hi y)), .int .u64 (bw x y)]).run Try.prog w =
    .ok (.value (.tuple #[.int .u64 (hu (x - y)), .int .u64 (bw2 x y)])) w := by
  obtain ⟨x1, x2⟩ := lo_u x
  obtain ⟨y1, y2⟩ := lo_u y
  rw [sub64 _ _ _ (wu0 _) (wu0 _) (by rw [IntKind.wrap_u64]; omega) (by unfold bw bor; split <;> omega) (by unfold bw bor; split <;> omega)]
  rw [show (IntKind.u64.wrap (hi x) - IntKind.u64.wrap (hi y) - bw x y) % 18446744073709551616 = hu (x - y) by rw [IntKind.wrap_u64, IntKind.wrap_u64]; unfold bw bor hu hi lo; split <;> omega]
  rfl
def difOk (b1 b2 b3 : Bool) : Bool := !(b1 != b2 && b3 != b1)
def subV (x y r : Int) (ok : Bool) : Value := bif ok then .tuple #[.agg #[.int .i64 r, .int .u64 (lo (x - y))], .bool true] else .tuple #[.agg #[.int .i64 0, .int .u64 0], .bool false]
set_option maxHeartbeats 1000000 in
theorem Sub_core (x y r : Int) (b1 b2 b3 : Bool) (hr : wrap64 (hu (x - y)) = r) (d1 : decide (hi x < 0) = b1) (d2 : decide (hi y < 0) = b2) (d3 : decide (r < 0) = b3) (w : World) :
    Calls Try.prog 117 #[.agg #[.int .i64 (hi x), .int .u64 (lo x)], .agg #[.int .i64 (hi y), .int .u64 (lo y)]] w fun e w' => e = .returned (subV x y r (difOk b1 b2 b3)) ∧ Ext w w' := by
  cases b1 <;> cases b2 <;> cases b3
  all_goals
    go_enter Try.func117, Try.ntmps117
    go_wp2_with (first | simp only [sub64_lo] | simp only [sub64_hi])
    exact bodyPost_ret (v := subV x y r (difOk _ _ _)) (by simp [results, Try.results117, go_sem, subV, difOk, *]) rfl ⟨rfl, by (repeat' (first | exact Ext.refl _ | assumption | apply Ext.allocR | apply Ext.drewR | apply Ext.drewNR | (refine Ext.trans' ?_ (by assumption))))⟩
theorem difOk_yes (x y : Int) (hx : W128 x) (hy : W128 y) (h : W128 (x - y)) : difOk (decide (hi x < 0)) (decide (hi y < 0)) (decide (hi (x - y) < 0)) = true := by
  simp only [hi_neg]
  unfold difOk
  by_cases a : x < 0 <;> by_cases b : y < 0 <;> by_cases c : x - y < 0 <;> simp [a, b, c] <;> omega
theorem Sub_yes (x y : Int) (hx : W128 x) (hy : W128 y) (h : W128 (x - y)) (w : World) :
    Calls Try.prog 117 #[.agg #[.int .i64 (hi x), .int .u64 (lo x)], .agg #[.int .i64 (hi y), .int .u64 (lo y)]] w fun e w' => e = .returned (.tuple #[.agg #[.int .i64 (hi (x - y)), .int .u64 (lo (x - y))], .bool true]) ∧ Ext w w' := by
  have := Sub_core x y _ _ _ _ (w64_hu _ h) rfl rfl rfl w
  rwa [difOk_yes x y hx hy h] at this
set_option maxHeartbeats 1000000 in
theorem Minus_c (a b : Int) (ha : I64 a) (hb : I64 b) (w : World) :
    Calls Try.prog 103 #[.int .i64 a, .int .i64 b] w fun e w' => e = .returned (.tuple #[.int .i64 (fitN (a - b)), .bool (fitB (a - b))]) ∧ Ext w w' := by
  have hd : W128 (a - b) := by unfold I64 at ha hb; unfold W128; omega
  go_enter Try.func103, Try.ntmps103
  go_wp2_with (first | (go_at_call 40; refine (Of_c _ (by assumption) _).mono ?_; rintro e w1 ⟨rfl, hb1⟩) | (go_at_call 117; refine (Sub_yes _ _ (w_of_i ha) (w_of_i hb) hd _).mono ?_; rintro e w3 ⟨rfl, hb3⟩) | (go_at_call 118; refine (Int_c _ _).mono ?_; rintro e w4 ⟨rfl, hb4⟩))
  go_ret2
  exact ⟨rfl, by (repeat' (first | exact Ext.refl _ | assumption | apply Ext.allocR | apply Ext.drewR | apply Ext.drewNR | (refine Ext.trans' ?_ (by assumption))))⟩
end Go.Proofs.Ythancaehlijaoaa
