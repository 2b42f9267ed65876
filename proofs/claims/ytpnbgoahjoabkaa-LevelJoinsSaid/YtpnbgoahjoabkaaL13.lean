/- Part. No condition. -/
import Derived.Test.YtpnbgoahjoabkaaL1
import Derived.Test.YtpnbgoahjoabkaaL2
import Derived.Test.YtpnbgoahjoabkaaL3
import Derived.Test.YtpnbgoahjoabkaaL4
import Derived.Test.YtpnbgoahjoabkaaL6

/- wide.Times, wide.Less. -/
namespace Go.Proofs.Ytpnbgoahjoabkaa
set_option linter.unusedVariables false
open Go.RowKit

theorem mul_abs {a b A B : Int} (ha : -A ≤ a ∧ a ≤ A) (hb : -B ≤ b ∧ b ≤ B) : -(A * B) ≤ a * b ∧ a * b ≤ A * B := by
  have h1 : 0 ≤ (A - a) * (B + b) := Int.mul_nonneg (by omega) (by omega)
  have h2 : 0 ≤ (A + a) * (B - b) := Int.mul_nonneg (by omega) (by omega)
  have h3 : 0 ≤ (A - a) * (B - b) := Int.mul_nonneg (by omega) (by omega)
  have h4 : 0 ≤ (A + a) * (B + b) := Int.mul_nonneg (by omega) (by omega)
  simp only [Int.mul_add, Int.add_mul, Int.sub_mul, Int.mul_sub] at h1 h2 h3 h4
  omega
theorem mul_w {a b : Int} (ha : I64 a) (hb : I64 b) : W128 (a * b) := by
  unfold I64 at ha hb
  have := mul_abs (A := 9223372036854775808) (B := 9223372036854775808) (a := a) (b := b) (by omega) (by omega)
  unfold W128; omega
def uu (a : Int) : Int := a % 18446744073709551616
theorem uu_u (a : Int) : U64 (uu a) := by unfold uu U64; omega
def tmH (a b : Int) (b1 b2 : Bool) : Int :=
  let p := uu a * uu b / 18446744073709551616
  let q := bif b1 then IntKind.u64.wrap (p - uu b) else p
  wrap64 (bif b2 then IntKind.u64.wrap (q - uu a) else q)
theorem tm_hi {a b : Int} (ha : I64 a) (hb : I64 b) {b1 b2 : Bool} (d1 : decide (a < 0) = b1) (d2 : decide (b < 0) = b2) : tmH a b b1 b2 = hi (a * b) := by
  have hw := mul_abs (A := 9223372036854775808) (B := 9223372036854775808) (a := a) (b := b) (by unfold I64 at ha; omega) (by unfold I64 at hb; omega)
  have e2 : (a + 18446744073709551616) * b = a * b + 18446744073709551616 * b := Int.add_mul _ _ _
  have e3 : a * (b + 18446744073709551616) = a * b + a * 18446744073709551616 := Int.mul_add _ _ _
  have e4 : (a + 18446744073709551616) * (b + 18446744073709551616) = a * b + a * 18446744073709551616 + (18446744073709551616 * b + 18446744073709551616 * 18446744073709551616) := by
    rw [Int.add_mul, Int.mul_add, Int.mul_add]
  have ua0 : ¬ a < 0 → uu a = a := fun h => by unfold uu; unfold I64 at ha; omega
  have ua1 : a < 0 → uu a = a + 18446744073709551616 := fun h => by unfold uu; unfold I64 at ha; omega
  have ub0 : ¬ b < 0 → uu b = b := fun h => by unfold uu; unfold I64 at hb; omega
  have ub1 : b < 0 → uu b = b + 18446744073709551616 := fun h => by unfold uu; unfold I64 at hb; omega
  subst d1 d2
  unfold tmH hi wrap64
  simp only [IntKind.wrap_u64]
  unfold I64 at ha hb
  by_cases h1 : a < 0 <;> by_cases h2 : b < 0
  · rw [ua1 h1, ub1 h2, e4]; simp only [h1, h2, decide_true, cond_true]; generalize a * b = t at *; omega
  · rw [ua1 h1, ub0 h2, e2]; simp only [h1, h2, decide_true, decide_false, cond_true, cond_false]; generalize a * b = t at *; omega
  · rw [ua0 h1, ub1 h2, e3]; simp only [h1, h2, decide_true, decide_false, cond_true, cond_false]; generalize a * b = t at *; omega
  · rw [ua0 h1, ub0 h2]; simp only [h1, h2, decide_false, cond_false]; generalize a * b = t at *; omega
theorem tm_lo (a b : Int) : uu a * uu b % 18446744073709551616 = lo (a * b) := by
  unfold uu lo
  rw [← Int.mul_emod]
theorem u64_wrap (a : Int) : IntKind.u64.wrap a = uu a := by rw [IntKind.wrap_u64]; rfl
set_option maxHeartbeats 1000000 in
theorem Times_core (a b : Int) (b1 b2 : Bool) (d1 : decide (a < 0) = b1) (d2 : decide (b < 0) = b2) (w : World) :
    Calls Try.prog 142 #[.int .i64 a, .int .i64 b] w fun e w' => e = .returned (.agg #[.int .i64 (tmH a b b1 b2), .int .u64 (uu a * uu b % 18446744073709551616)]) ∧ Ext w w' := by
  have e1 := u64_wrap a
  have e2 := u64_wrap b
  cases b1 <;> cases b2
  all_goals
    go_enter Try.func142, Try.ntmps142
    go_wp2_with (go_at_call 175; refine (mul64 _ _ (uu_u a) (uu_u b) _).mono ?_; rintro e w' ⟨rfl, rfl⟩)
    exact bodyPost_ret (v := .agg #[.int .i64 (tmH a b _ _), .int .u64 (uu a * uu b % 18446744073709551616)]) (by simp [results, Try.results142, go_sem, tmH]) rfl ⟨rfl, by (repeat' (first | exact Ext.refl _ | assumption | apply Ext.allocR | apply Ext.drewR | apply Ext.drewNR | (refine Ext.trans' ?_ (by assumption))))⟩
theorem Times_c (a b : Int) (ha : I64 a) (hb : I64 b) (w : World) :
    Calls Try.prog 142 #[.int .i64 a, .int .i64 b] w fun e w' => e = .returned (.agg #[.int .i64 (hi (a * b)), .int .u64 (lo (a * b))]) ∧ Ext w w' := by
  have := Times_core a b _ _ rfl rfl w
  rwa [tm_hi ha hb rfl rfl, tm_lo] at this
theorem less_bool (x y : Int) : (decide (hi x < hi y) || ((hi x == hi y) && decide (lo x < lo y))) = decide (x < y) := by
  have hx := hilo x
  have hy := hilo y
  have lx := lo_u x
  have ly := lo_u y
  unfold U64 at lx ly
  rw [Bool.eq_iff_iff]
  simp only [Bool.or_eq_true, Bool.and_eq_true, decide_eq_true_eq, beq_iff_eq]
  omega
set_option maxHeartbeats 1000000 in
theorem Less_core (x y : Int) (b1 b2 b3 : Bool) (d1 : decide (hi x < hi y) = b1) (d2 : (hi x == hi y) = b2) (d3 : decide (lo x < lo y) = b3) (w : World) :
    Calls Try.prog 98 #[.agg #[.int .i64 (hi x), .int .u64 (lo x)], .agg #[.int .i64 (hi y), .int .u64 (lo y)]] w fun e w' => e = .returned (.bool (b1 || (b2 && b3))) ∧ Ext w w' := by
  cases b1 <;> cases b2 <;> cases b3
  all_goals
    go_enter Try.func98, Try.ntmps98
    go_wp2
    go_ret
    exact ⟨rfl, by (repeat' (first | exact Ext.refl _ | assumption | apply Ext.allocR | apply Ext.drewR | apply Ext.drewNR | (refine Ext.trans' ?_ (by assumption))))⟩
theorem Less_c (x y : Int) (w : World) :
    Calls Try.prog 98 #[.agg #[.int .i64 (hi x), .int .u64 (lo x)], .agg #[.int .i64 (hi y), .int .u64 (lo y)]] w fun e w' => e = .returned (.bool (decide (x < y))) ∧ Ext w w' := by
  have := Less_core x y _ _ _ rfl rfl rfl w
  rwa [less_bool] at this
end Go.Proofs.Ytpnbgoahjoabkaa

/- inner.Dot: sums of products, as long as each fits. -/
namespace Go.Proofs.Ytpnbgoahjoabkaa
set_option linter.unusedVariables false
open Go.RowKit

theorem IntsAt.sl {w : World} {v : Value} {xs : List Int} (h : IntsAt w v xs) : ∃ p c, v = .slice p xs.length c := by
  rcases h with ⟨rfl, rfl⟩ | ⟨g, off, cap, rfl, _⟩
  · exact ⟨none, 0, rfl⟩
  · exact ⟨_, _, rfl⟩
theorem IntsAt.one {w : World} {p : Option Addr} {n c : Nat} {xs : List Int} (h : IntsAt w (.slice p n c) xs) {k : Nat} (hk : k < xs.length) :
    ∃ g off, p = some ⟨g, off, none⟩ ∧ g < w.heap.size ∧ w.cell? ⟨g, off + k, none⟩ = some (.int .i64 (xs.getD k 0)) := by
  rcases h with ⟨_, rfl⟩ | ⟨g, off, cap, hv, hg, hc⟩
  · simp at hk
  · cases hv
    exact ⟨g, off, rfl, hg, hc k hk⟩
def fit128 (x : Int) : Bool := decide (-170141183460469231731687303715884105728 ≤ x ∧ x ≤ 170141183460469231731687303715884105727)
theorem fit128_iff {x : Int} : fit128 x = true ↔ W128 x := decide_eq_true_iff
/-- The sum of the first k products, if each sum on the way fits. -/
def dotF (a b : List Int) : Nat → Option Int
  | 0 => some 0
  | k + 1 => (dotF a b k).bind fun s => bif fit128 (s + a.getD k 0 * b.getD k 0) then some (s + a.getD k 0 * b.getD k 0) else none
theorem dotF_w {a b : List Int} : ∀ {k : Nat} {s : Int}, dotF a b k = some s → W128 s := by
  intro k s h
  cases k with
  | zero => cases h; unfold W128; omega
  | succ k =>
    simp only [dotF] at h
    cases hd : dotF a b k with
    | none => rw [hd] at h; cases h
    | some t =>
      rw [hd] at h
      simp only [Option.bind_some] at h
      cases hf : fit128 (t + a.getD k 0 * b.getD k 0) with
      | false => rw [hf] at h; cases h
      | true => rw [hf] at h; cases h; exact fit128_iff.1 hf
theorem dotF_yes {a b : List Int} {k : Nat} {s : Int} (h : dotF a b k = some s) (hw : W128 (s + a.getD k 0 * b.getD k 0)) : dotF a b (k + 1) = some (s + a.getD k 0 * b.getD k 0) := by
  simp only [dotF, h, Option.bind_some, fit128_iff.2 hw, cond_true]
theorem dotF_no {a b : List Int} {k : Nat} {s : Int} (h : dotF a b k = some s) (hw : ¬ W128 (s + a.getD k 0 * b.getD k 0)) : dotF a b (k + 1) = none := by
  have : fit128 (s + a.getD k 0 * b.getD k 0) = false := by
    cases hf : fit128 (s + a.getD k 0 * b.getD k 0) with
    | false => rfl
    | true => exact absurd (fit128_iff.1 hf) hw
  simp only [dotF, h, Option.bind_some, this, cond_false]
theorem dotF_none {a b : List Int} {k : Nat} (h : dotF a b k = none) : ∀ {n : Nat}, k ≤ n → dotF a b n = none := by
  intro n hn
  induction n with
  | zero => obtain rfl : k = 0 := by omega
            exact h
  | succ n ih =>
    rcases Nat.lt_or_ge n k with h1 | h1
    · obtain rfl : k = n + 1 := by omega
      exact h
    · simp only [dotF, ih h1, Option.bind_none]
def dotV : Option Int → Value
  | some s => .tuple #[.agg #[.int .i64 (hi s), .int .u64 (lo s)], .bool true]
  | none => .tuple #[.agg #[.int .i64 0, .int .u64 0], .bool false]
set_option maxRecDepth 20000 in
set_option maxHeartbeats 4000000 in
theorem Dot_c (a b : List Int) (v1 v2 : Value) (w : World) (ha : ∀ x ∈ a, I64 x) (hb : ∀ x ∈ b, I64 x) (hl : a.length = b.length) (hn : a.length ≤ 1152921504606846976) (h1 : IntsAt w v1 a) (h2 : IntsAt w v2 b) :
    Calls Try.prog 88 #[v1, v2] w fun e w' => e = .returned (dotV (dotF a b a.length)) ∧ Ext w w' := by
  obtain ⟨p1, c1, rfl⟩ := h1.sl
  obtain ⟨p2, c2, rfl⟩ := h2.sl
  obtain ⟨n, hN⟩ : ∃ n, a.length = n := ⟨_, rfl⟩
  have HB : Hid (b.length = n) := Lib.hid (hl.symm.trans hN)
  have HN := Lib.hid hN
  have H1 := Lib.hid h1
  have H2 := Lib.hid h2
  rw [← hl]
  rw [hN] at hn ⊢
  clear hl hN h1 h2
  go_enter Try.func88, Try.ntmps88
  go_wp2_with fail
  go_loopw [19] (fun u wr => ∃ (k : Nat) (s : Int), k ≤ n ∧ u = .int .i64 k ∧ dotF a b k = some s ∧ Ext w wr ∧ wr.heap[w.heap.size + 1]? = some (.cells #[.int .i64 (hi s), .int .u64 (lo s)] 40 (0, 0)) ∧ wr.heap[w.heap.size]? = some (.cells #[.int .i64 0, .int .u64 0] 40 (0, 0))) (fun u _ => n - (intOf u).toNat)
  case atStart =>
    refine ⟨0, 0, Nat.zero_le _, rfl, rfl, (Ext.alloc' _ _).allocR _, heap_at _ _ (size_alloc _ _).symm, ?_⟩
    rw [heap_old _ _ (by rw [size_alloc]; exact Nat.lt_succ_self _)]
    exact heap_at _ _ rfl
  case round =>
    obtain ⟨k, s, hk, rfl, hs, hx, hg1, hg0⟩ := hrel
    have x0 := (cell_of hg1 0).trans rfl
    have x1 := (cell_of hg1 1).trans rfl
    have l1 := lt_of hg1
    by_cases hgo : k < n
    · obtain ⟨ga, oa, rfl, hga, d1⟩ := H1.out.one (k := k) (by rw [HN.out]; exact hgo)
      obtain ⟨gb, ob, rfl, hgb, d2⟩ := H2.out.one (k := k) (by rw [HB.out]; exact hgo)
      have e1 := ((bcell hx).1 ga _ hga).trans d1
      have e2 := ((bcell hx).1 gb _ hgb).trans d2
      have la : ga < wr.heap.size := Nat.lt_of_lt_of_le hga hx.size
      have lb : gb < wr.heap.size := Nat.lt_of_lt_of_le hgb hx.size
      have ia := ha _ (getD_mem (l := a) (k := k) (by rw [HN.out]; exact hgo))
      have ib := hb _ (getD_mem (l := b) (k := k) (by rw [HB.out]; exact hgo))
      have hyes := dotF_yes hs
      have hno := dotF_no hs
      have hsw := dotF_w hs
      generalize a.getD k 0 = x at *
      generalize b.getD k 0 = y at *
      have hpw := mul_w ia ib
      have HYES := Lib.hid hyes
      have HNO := Lib.hid hno
      have HG0 := Lib.hid hg0
      have HG1 := Lib.hid hg1
      clear hyes hno hs hg0 hg1 d1 d2 hga hgb
      obtain ⟨rh, rl, ok, hAdd, hok1, hok0⟩ : ∃ (rh rl : Int) (ok : Bool), (∀ w0 : World, Calls Try.prog 141 #[.agg #[.int .i64 (hi s), .int .u64 (lo s)], .agg #[.int .i64 (hi (x * y)), .int .u64 (lo (x * y))]] w0 fun e w' => e = .returned (.tuple #[.agg #[.int .i64 rh, .int .u64 rl], .bool ok]) ∧ Ext w0 w') ∧ (ok = true → W128 (s + x * y) ∧ rh = hi (s + x * y) ∧ rl = lo (s + x * y)) ∧ (ok = false → ¬ W128 (s + x * y)) := by
        by_cases hfit : W128 (s + x * y)
        · exact ⟨_, _, true, fun w0 => Add_yes s (x * y) hsw hpw hfit w0, (fun _ => ⟨hfit, rfl, rfl⟩), (fun h => by cases h)⟩
        · exact ⟨_, _, false, fun w0 => Add_no s (x * y) hsw hpw hfit w0, (fun h => by cases h), (fun _ => hfit)⟩
      have hAdd := Lib.hid hAdd
      have HOK1 := Lib.hid hok1
      have HOK0 := Lib.hid hok0
      clear hok1 hok0
      go_upto_region 7 with (fail)
      go_cut [9, 10] (fun s9 s10 wx => ∃ z : Nat, s9 = .pointer (some ⟨z, 0, none⟩) ∧ s10 = .bool ok ∧ wx.heap[z]? = some (.cells #[.int .i64 rh, .int .u64 rl] 40 (0, 0)) ∧ Ext wr wx ∧ wr.heap.size ≤ z)
      case first =>
        have hC0 := af_drew wr
        refine pi_start (fun w' => ∃ x : After wr, w' = x.w) [] (by kernel_rfl) ?_
        refine pi_t 1 rfl (by kernel_rfl) (by kernel_rfl) (fun _ _ _ _ h => h) (fun K hK => ?_)
        go_big_quiet_op
        refine hK _ ?_
        clear hK K
        refine pi_t 2 rfl (by kernel_rfl) (by kernel_rfl) (fun _ _ _ _ h => h) (fun K hK => ?_)
        go_big_quiet_op
        refine hK _ ?_
        clear hK K
        refine pi_t 3 rfl (by kernel_rfl) (by kernel_rfl) (fun _ _ _ _ h => h) (fun K hK => ?_)
        go_big_quiet_op
        refine hK _ ?_
        clear hK K
        refine pi_t 4 rfl (by kernel_rfl) (by kernel_rfl) (fun _ _ _ _ h => h) (fun K hK => ?_)
        go_big_quiet_op
        refine hK _ ?_
        clear hK K
        refine pi_c 0 (by assumption) rfl (by kernel_rfl) (by kernel_rfl) (fun _ _ _ _ h => h) (fun K hK => ?_)
        go_big_quiet_op
        refine hK _ ?_
        clear hK K
        refine pi_c 5 (by assumption) rfl (by kernel_rfl) (by kernel_rfl) (fun _ _ _ _ h => h) (fun K hK => ?_)
        go_big_quiet_op
        refine hK _ ?_
        clear hK K
        refine pi_b 6 11 rfl rfl (by kernel_rfl) (fun K hK => ?_) (fun K hK => ?_)
        · go_wp2_with (go_at_call 142; refine (Times_c x y ia ib _).mono ?_; rintro e wt ⟨rfl, hxt⟩)
          refine hK _ _ (fun _ h => af_step h hxt) ?_
          clear hK K
          have hEt : Ext wr wt := Ext.trans' (Below.drew (Ext.refl wr)) hxt
          refine pi_b 7 11 rfl rfl (by kernel_rfl) (fun K hK => ?_) (fun K hK => ?_)
          · go_wp2_with (go_at_call 141; refine (hAdd.out _).mono ?_; rintro e wa ⟨rfl, hxa⟩)
            refine hK _ _ (fun _ h => af_step h hxa) ?_
            clear hK K
            have hEa := hEt.trans' hxa
            refine pi_t 8 rfl (by kernel_rfl) (by kernel_rfl) (fun _ _ _ _ h => h) (fun K hK => ?_)
            go_big_quiet_op
            refine hK _ ?_
            clear hK K
            refine pi_t 9 rfl (by kernel_rfl) (by kernel_rfl) (fun _ _ _ _ h => h) (fun K hK => ?_)
            go_big_quiet_op
            refine hK _ ?_
            clear hK K
            refine pi_t 10 rfl (by kernel_rfl) (by kernel_rfl) (fun _ _ _ _ h => h) (fun K hK => ?_)
            go_big_quiet_op
            refine hK _ ?_
            clear hK K
            refine pi_l 11 rfl (by kernel_rfl) (fun K hK => ?_)
            go_wp2
            refine hK _ _ (fun _ h => af_step h (Ext.alloc' _ _)) ?_
            clear hK K
            refine pi_l 12 rfl (by kernel_rfl) (fun K hK => ?_)
            go_wp2
            have hsz := hEa.size
            refine hK _ _ (fun _ h => ⟨⟨_, hEa.allocR _⟩, rfl⟩) ?_
            clear hK K
            refine pi_t 13 rfl (by kernel_rfl) (by kernel_rfl) (fun _ _ _ _ h => h) (fun K hK => ?_)
            go_big_quiet_op
            refine hK _ ?_
            clear hK K
            refine pi_end (by kernel_rfl) ?_
            go_wp2_with fail
            go_meet
            exact ⟨_, rfl, rfl, heap_at _ _ rfl, hEa.allocR _, hsz⟩
          · go_wp2
            refine hK _ _ (fun _ h => af_step h (Ext.alloc' _ _)) ?_
            clear hK K
            refine pi_l 7 rfl (by kernel_rfl) (fun K hK => ?_)
            go_wp2_with (go_at_call 141; refine (hAdd.out _).mono ?_; rintro e wa ⟨rfl, hxa⟩)
            refine hK _ _ (fun _ h => af_step h hxa) ?_
            clear hK K
            have hEa := (hEt.allocR _).trans' hxa
            have hbx := hxa.keep (heap_at wt _ rfl)
            have hsz := hEt.size
            have p0 := (cell_of hbx 0).trans rfl
            have p1 := (cell_of hbx 1).trans rfl
            have f0 := frozen_of hbx 0
            have f1 := frozen_of hbx 1
            have HBX := Lib.hid hbx
            clear hbx
            refine pi_t 8 rfl (by kernel_rfl) (by kernel_rfl) (fun _ _ _ _ h => h) (fun K hK => ?_)
            go_big_quiet_op
            refine hK _ ?_
            clear hK K
            refine pi_t 9 rfl (by kernel_rfl) (by kernel_rfl) (fun _ _ _ _ h => h) (fun K hK => ?_)
            go_big_quiet_op
            refine hK _ ?_
            clear hK K
            refine pi_t 10 rfl (by kernel_rfl) (by kernel_rfl) (fun _ _ _ _ h => h) (fun K hK => ?_)
            go_big_quiet_op
            refine hK _ ?_
            clear hK K
            refine pi_l 12 rfl (by kernel_rfl) (fun K hK => ?_)
            go_wp2
            refine hK _ _ (fun _ h => ⟨⟨_, (hEa.setR hsz _).setR hsz _⟩, rfl⟩) ?_
            clear hK K
            refine pi_t 13 rfl (by kernel_rfl) (by kernel_rfl) (fun _ _ _ _ h => h) (fun K hK => ?_)
            go_big_quiet_op
            refine hK _ ?_
            clear hK K
            refine pi_end (by kernel_rfl) ?_
            go_wp2_with fail
            go_meet
            exact ⟨_, rfl, rfl, set2 HBX.out _ _, (hEa.setR hsz _).setR hsz _, hsz⟩
        · go_wp2
          refine hK _ _ (fun _ h => af_step h (Ext.alloc' _ _)) ?_
          clear hK K
          refine pi_l 6 rfl (by kernel_rfl) (fun K hK => ?_)
          go_wp2_with (go_at_call 142; refine (Times_c x y ia ib _).mono ?_; rintro e wt ⟨rfl, hxt⟩)
          refine hK _ _ (fun _ h => af_step h hxt) ?_
          clear hK K
          refine pi_l 7 rfl (by kernel_rfl) (fun K hK => ?_)
          go_wp2_with (go_at_call 141; refine (hAdd.out _).mono ?_; rintro e wa ⟨rfl, hxa⟩)
          refine hK _ _ (fun _ h => af_step h hxa) ?_
          clear hK K
          have hEa : Ext wr wa := Ext.trans' (Ext.trans' (Ext.alloc' wr _) (Ext.trans' (Below.drew (Ext.refl _)) hxt)) hxa
          have hbx : wa.heap[wr.heap.size]? = some (.cells #[.int .i64 0, .int .u64 0] 40 (0, 0)) := hxa.keep (hxt.keep (heap_at wr.drew _ rfl))
          have p0 := (cell_of hbx 0).trans rfl
          have p1 := (cell_of hbx 1).trans rfl
          have f0 := frozen_of hbx 0
          have f1 := frozen_of hbx 1
          have HBX := Lib.hid hbx
          clear hbx
          refine pi_t 8 rfl (by kernel_rfl) (by kernel_rfl) (fun _ _ _ _ h => h) (fun K hK => ?_)
          go_big_quiet_op
          refine hK _ ?_
          clear hK K
          refine pi_t 9 rfl (by kernel_rfl) (by kernel_rfl) (fun _ _ _ _ h => h) (fun K hK => ?_)
          go_big_quiet_op
          refine hK _ ?_
          clear hK K
          refine pi_t 10 rfl (by kernel_rfl) (by kernel_rfl) (fun _ _ _ _ h => h) (fun K hK => ?_)
          go_big_quiet_op
          refine hK _ ?_
          clear hK K
          refine pi_l 12 rfl (by kernel_rfl) (fun K hK => ?_)
          go_wp2
          refine hK _ _ (fun _ h => ⟨⟨_, (hEa.setR (p := ⟨wr.heap.size, 0, none⟩) (Nat.le_refl _) _).setR (p := ⟨wr.heap.size, 1, none⟩) (Nat.le_refl _) _⟩, rfl⟩) ?_
          clear hK K
          refine pi_t 13 rfl (by kernel_rfl) (by kernel_rfl) (fun _ _ _ _ h => h) (fun K hK => ?_)
          go_big_quiet_op
          refine hK _ ?_
          clear hK K
          refine pi_end (by kernel_rfl) ?_
          go_wp2_with fail
          go_meet
          exact ⟨_, rfl, rfl, set2 HBX.out _ _, (hEa.setR (p := ⟨wr.heap.size, 0, none⟩) (Nat.le_refl _) _).setR (p := ⟨wr.heap.size, 1, none⟩) (Nat.le_refl _) _, Nat.le_refl _⟩
      case rest =>
        obtain ⟨z, rfl, rfl, hz, hEc, hzz⟩ := hcut
        have hE := hx.trans' hEc
        have y0 := (cell_of hz 0).trans rfl
        have y1 := (cell_of hz 1).trans rfl
        have zl := lt_of hz
        have hg0 := hEc.keep HG0.out
        have hg1 := hEc.keep HG1.out
        cases ok
        · have hnn := HNO.out (HOK0.out rfl)
          have hnil := dotF_none hnn (n := n) (by omega)
          have a0 := (cell_of hg0 0).trans rfl
          have a1 := (cell_of hg0 1).trans rfl
          have f0 := frozen_of hg0 0
          have f1 := frozen_of hg0 1
          have HG0' := Lib.hid hg0
          have HNIL := Lib.hid hnil
          clear hg0 hg1 hnn hnil
          go_wp2_with fail
          refine bodyPost_ret (v := .tuple #[.agg #[.int .i64 0, .int .u64 0], .bool false]) (by simp [results, Try.results88, go_sem, *]) rfl ⟨by rw [HNIL.out]; rfl, ?_⟩
          exact (hE.setR (Nat.le_refl _) _).setR (Nat.le_refl _) _
        · obtain ⟨hfit, rfl, rfl⟩ := HOK1.out rfl
          have hss := HYES.out hfit
          have a0 := (cell_of hg1 0).trans rfl
          have a1 := (cell_of hg1 1).trans rfl
          have f0 := frozen_of hg1 0
          have f1 := frozen_of hg1 1
          have HG0' := Lib.hid hg0
          have HG1' := Lib.hid hg1
          have HSS := Lib.hid hss
          clear hg0 hg1 hss x0 x1
          go_wp2_with fail
          go_roundw
          case rel =>
            refine ⟨k + 1, s + x * y, by omega, by go_num, HSS.out, (hE.setR (Nat.le_succ _) _).setR (Nat.le_succ _) _, set2 HG1'.out _ _, ?_⟩
            rw [setCell_other _ _ (by omega), setCell_other _ _ (by omega)]
            exact HG0'.out
          case measure => simp [intOf]; omega
    · obtain rfl : k = n := by omega
      have HSS := Lib.hid hs
      have a0 := (cell_of hg0 0).trans rfl
      have a1 := (cell_of hg0 1).trans rfl
      have f0 := frozen_of hg0 0
      have f1 := frozen_of hg0 1
      have HG0 := Lib.hid hg0
      clear hg0 hg1 hs
      go_wp2_with fail
      refine bodyPost_ret (v := .tuple #[.agg #[.int .i64 (hi s), .int .u64 (lo s)], .bool true]) (by simp [results, Try.results88, go_sem, *]) rfl ⟨by rw [HSS.out]; rfl, ?_⟩
      exact (hx.setR (Nat.le_refl _) _).setR (Nat.le_refl _) _
end Go.Proofs.Ytpnbgoahjoabkaa

/- inner.Inner: the least product of two rows. -/
namespace Go.Proofs.Ytpnbgoahjoabkaa
set_option linter.unusedVariables false
open Go.RowKit

def zw : Value := .agg #[.int .i64 0, .int .u64 0]
theorem Dot_no (p1 p2 : Option Addr) (n1 c1 n2 c2 : Nat) (w : World) (hn : n1 ≠ n2) (h1 : n1 ≤ 1152921504606846976) (h2 : n2 ≤ 1152921504606846976) :
    Calls Try.prog 88 #[.slice p1 n1 c1, .slice p2 n2 c2] w fun e w' => e = .returned (.tuple #[.agg #[.int .i64 0, .int .u64 0], .bool false]) ∧ Ext w w' := by
  have hne : ((n1 : Int) != (n2 : Int)) = true := by simp; omega
  go_enter Try.func88, Try.ntmps88
  go_wp2_with fail
  refine bodyPost_ret (v := .tuple #[.agg #[.int .i64 0, .int .u64 0], .bool false]) (by simp [results, Try.results88, go_sem]) rfl ⟨rfl, by (repeat' (first | exact Ext.refl _ | assumption | apply Ext.allocR | apply Ext.drewR | apply Ext.drewNR | (refine Ext.trans' ?_ (by assumption))))⟩
def rowP (l : List Int) (W r : Nat) : List Int := (List.range W).map fun k => l.getD (r * W + k) 0
theorem rowP_len (l : List Int) (W r : Nat) : (rowP l W r).length = W := by simp [rowP]
theorem rowP_get (l : List Int) {W r k : Nat} (h : k < W) : (rowP l W r).getD k 0 = l.getD (r * W + k) 0 := by simp [rowP, h]
theorem rowP_all {l : List Int} (h : allI l) (W r : Nat) : ∀ x ∈ rowP l W r, I64 x := by
  intro x hx
  simp only [rowP, List.mem_map, List.mem_range] at hx
  obtain ⟨k, _, rfl⟩ := hx
  exact getD_i64 h _
/-- The least of the products of the first r rows, if each fits. -/
def innF (l m : List Int) (W : Nat) : Nat → Option Int
  | 0 => some 0
  | r + 1 => (innF l m W r).bind fun best => (dotF (rowP l W r) (rowP m W r) W).bind fun n => some (bif decide (r = 0) || decide (n < best) then n else best)
theorem innF_w {l m : List Int} {W : Nat} : ∀ {r : Nat} {s : Int}, innF l m W r = some s → W128 s := by
  intro r
  induction r with
  | zero => intro s h; cases h; unfold W128; omega
  | succ r ih =>
    intro s h
    simp only [innF] at h
    cases hb : innF l m W r with
    | none => rw [hb] at h; cases h
    | some best =>
      cases hd : dotF (rowP l W r) (rowP m W r) W with
      | none => rw [hb, hd] at h; cases h
      | some n =>
        rw [hb, hd] at h
        simp only [Option.bind_some] at h
        cases hc : (decide (r = 0) || decide (n < best)) with
        | false => rw [hc] at h; cases h; exact ih hb
        | true => rw [hc] at h; cases h; exact dotF_w hd
theorem innF_none {l m : List Int} {W r : Nat} (h : innF l m W r = none) : ∀ {n : Nat}, r ≤ n → innF l m W n = none := by
  intro n hn
  induction n with
  | zero => obtain rfl : r = 0 := by omega
            exact h
  | succ n ih =>
    rcases Nat.lt_or_ge n r with h1 | h1
    · obtain rfl : r = n + 1 := by omega
      exact h
    · simp only [innF, ih h1, Option.bind_none]
def innV : Option Int → Value
  | some s => .tuple #[.agg #[.int .i64 (hi s), .int .u64 (lo s)], .int .i64 0]
  | none => .tuple #[.agg #[.int .i64 0, .int .u64 0], .int .i64 4]
theorem Inner_nil1 (p : Option Addr) (w : World) :
    Calls Try.prog 30 #[.pointer none, .pointer p] w fun e w' => e = .returned (.tuple #[.agg #[.int .i64 0, .int .u64 0], .int .i64 5]) ∧ Ext w w' := by
  go_enter Try.func30, Try.ntmps30
  go_wp2_with fail
  refine bodyPost_ret (v := .tuple #[.agg #[.int .i64 0, .int .u64 0], .int .i64 5]) (by simp [results, Try.results30, go_sem]) rfl ⟨rfl, by (repeat' (first | exact Ext.refl _ | assumption | apply Ext.allocR | apply Ext.drewR | apply Ext.drewNR | (refine Ext.trans' ?_ (by assumption))))⟩
theorem Inner_nil2 (s : Nat) (w : World) :
    Calls Try.prog 30 #[.pointer (some ⟨s, 0, none⟩), .pointer none] w fun e w' => e = .returned (.tuple #[.agg #[.int .i64 0, .int .u64 0], .int .i64 5]) ∧ Ext w w' := by
  go_enter Try.func30, Try.ntmps30
  go_wp2_with fail
  refine bodyPost_ret (v := .tuple #[.agg #[.int .i64 0, .int .u64 0], .int .i64 5]) (by simp [results, Try.results30, go_sem]) rfl ⟨rfl, by (repeat' (first | exact Ext.refl _ | assumption | apply Ext.allocR | apply Ext.drewR | apply Ext.drewNR | (refine Ext.trans' ?_ (by assumption))))⟩
theorem zbox {w0 wx : World} {b : Nat} (h : w0.heap[b]? = some (.cells #[.int .i64 0, .int .u64 0] 40 (0, 0))) (hE : Ext w0 wx) :
    wx.cell? ⟨b, 0, none⟩ = some (.int .i64 0) ∧ wx.cell? ⟨b, 1, none⟩ = some (.int .u64 0) ∧ wx.frozen? ⟨b, 0, none⟩ = false ∧ wx.frozen? ⟨b, 1, none⟩ = false ∧ b < wx.heap.size :=
  have h' := hE.keep h
  ⟨(cell_of h' 0).trans rfl, (cell_of h' 1).trans rfl, frozen_of h' 0, frozen_of h' 1, lt_of h'⟩
set_option maxRecDepth 20000 in
set_option maxHeartbeats 4000000 in
theorem Inner_unlike (s b c s2 b2 c2 : Nat) (C C2 : Cfg) (lv lv2 : Int) (R W R2 W2 : Nat) (l l2 : List Int) (w : World) (h : SAt w s b c C lv R W l) (h2 : SAt w s2 b2 c2 C2 lv2 R2 W2 l2) (hp : PartsAt C lv C2 lv2) :
    Calls Try.prog 30 #[.pointer (some ⟨s, 0, none⟩), .pointer (some ⟨s2, 0, none⟩)] w fun e w' => e = .returned (.tuple #[.agg #[.int .i64 0, .int .u64 0], .int .i64 5]) ∧ Ext w w' := by
  have H := Lib.hid h
  have H2 := Lib.hid h2
  clear h h2
  go_enter Try.func30, Try.ntmps30
  go_upto_region 1 with (fail)
  have hz0 := heap_at w (.cells #[.int .i64 0, .int .u64 0] 40) rfl
  have hE0 : Ext w (w.alloc (.cells #[.int .i64 0, .int .u64 0] 40)) := Ext.alloc' _ _
  generalize w.alloc (.cells #[.int .i64 0, .int .u64 0] 40) = w0 at *
  have HZ0 := Lib.hid hz0
  clear hz0
  go_cut [34] (fun s34 wx => s34 = .bool true ∧ Ext w0 wx)
  case first =>
    cases hp
    all_goals
      go_wp2_with (first | (go_at_call 44; refine (SConfig_c s b c C lv R W l _ (H.out.ext (by (repeat' (first | exact Ext.refl _ | assumption | apply Ext.allocR | apply Ext.drewR | apply Ext.drewNR | (refine Ext.trans' ?_ (by assumption))))))).mono ?_; rintro e w1 ⟨rfl, hb1⟩) | (go_at_call 44; refine (SConfig_c s2 b2 c2 C2 lv2 R2 W2 l2 _ (H2.out.ext (by (repeat' (first | exact Ext.refl _ | assumption | apply Ext.allocR | apply Ext.drewR | apply Ext.drewNR | (refine Ext.trans' ?_ (by assumption))))))).mono ?_; rintro e w2 ⟨rfl, hb2⟩) | (go_at_call 45; refine (SLevel_c s b c C lv R W l _ (H.out.ext (by (repeat' (first | exact Ext.refl _ | assumption | apply Ext.allocR | apply Ext.drewR | apply Ext.drewNR | (refine Ext.trans' ?_ (by assumption))))))).mono ?_; rintro e w3 ⟨rfl, rfl⟩) | (go_at_call 45; refine (SLevel_c s2 b2 c2 C2 lv2 R2 W2 l2 _ (H2.out.ext (by (repeat' (first | exact Ext.refl _ | assumption | apply Ext.allocR | apply Ext.drewR | apply Ext.drewNR | (refine Ext.trans' ?_ (by assumption))))))).mono ?_; rintro e w4 ⟨rfl, rfl⟩))
      go_meet
      exact ⟨by first | rfl | simp [bne, *], by (repeat' (first | exact Ext.refl _ | assumption | apply Ext.allocR | apply Ext.drewR | apply Ext.drewNR | (refine Ext.trans' ?_ (by assumption))))⟩
  case rest =>
    obtain ⟨rfl, hEc⟩ := hcut
    obtain ⟨p0, p1, f0, f1, hl⟩ := zbox HZ0.out hEc
    go_wp2_with fail
    refine bodyPost_ret (v := .tuple #[.agg #[.int .i64 0, .int .u64 0], .int .i64 5]) (by simp [results, Try.results30, go_sem, *]) rfl ⟨rfl, ?_⟩
    exact ((hE0.trans' hEc).setR (Nat.le_refl _) _).setR (Nat.le_refl _) _
set_option maxRecDepth 20000 in
set_option maxHeartbeats 4000000 in
theorem Inner_mode (s b c s2 b2 c2 : Nat) (C : Cfg) (lv : Int) (R W : Nat) (l l2 : List Int) (w : World) (h : SAt w s b c C lv R W l) (h2 : SAt w s2 b2 c2 C lv R W l2) (hm : C.mode ≠ 1) :
    Calls Try.prog 30 #[.pointer (some ⟨s, 0, none⟩), .pointer (some ⟨s2, 0, none⟩)] w fun e w' => e = .returned (.tuple #[.agg #[.int .i64 0, .int .u64 0], .int .i64 3]) ∧ Ext w w' := by
  have H := Lib.hid h
  have H2 := Lib.hid h2
  have hm' : (C.mode != 1) = true := by simpa using hm
  clear h h2 hm
  go_enter Try.func30, Try.ntmps30
  go_upto_region 1 with (fail)
  have hz0 := heap_at w (.cells #[.int .i64 0, .int .u64 0] 40) rfl
  have hE0 : Ext w (w.alloc (.cells #[.int .i64 0, .int .u64 0] 40)) := Ext.alloc' _ _
  generalize w.alloc (.cells #[.int .i64 0, .int .u64 0] 40) = w0 at *
  have HZ0 := Lib.hid hz0
  clear hz0
  go_cut [34] (fun s34 wx => s34 = .bool false ∧ Ext w0 wx)
  case first =>
    go_wp2_with (first | (go_at_call 44; refine (SConfig_c s b c C lv R W l _ (H.out.ext (by (repeat' (first | exact Ext.refl _ | assumption | apply Ext.allocR | apply Ext.drewR | apply Ext.drewNR | (refine Ext.trans' ?_ (by assumption))))))).mono ?_; rintro e w1 ⟨rfl, hb1⟩) | (go_at_call 44; refine (SConfig_c s2 b2 c2 C lv R W l2 _ (H2.out.ext (by (repeat' (first | exact Ext.refl _ | assumption | apply Ext.allocR | apply Ext.drewR | apply Ext.drewNR | (refine Ext.trans' ?_ (by assumption))))))).mono ?_; rintro e w2 ⟨rfl, hb2⟩) | (go_at_call 45; refine (SLevel_c s b c C lv R W l _ (H.out.ext (by (repeat' (first | exact Ext.refl _ | assumption | apply Ext.allocR | apply Ext.drewR | apply Ext.drewNR | (refine Ext.trans' ?_ (by assumption))))))).mono ?_; rintro e w3 ⟨rfl, rfl⟩) | (go_at_call 45; refine (SLevel_c s2 b2 c2 C lv R W l2 _ (H2.out.ext (by (repeat' (first | exact Ext.refl _ | assumption | apply Ext.allocR | apply Ext.drewR | apply Ext.drewNR | (refine Ext.trans' ?_ (by assumption))))))).mono ?_; rintro e w4 ⟨rfl, rfl⟩))
    go_meet
    exact ⟨by first | rfl | simp, by (repeat' (first | exact Ext.refl _ | assumption | apply Ext.allocR | apply Ext.drewR | apply Ext.drewNR | (refine Ext.trans' ?_ (by assumption))))⟩
  case rest =>
    obtain ⟨rfl, hEc⟩ := hcut
    go_wp2_with fail
    refine Calls.mono (SConfig_c s b c C lv R W l _ (H.out.ext ?hx)) ?_
    case hx => (repeat' (first | exact Ext.refl _ | assumption | apply Ext.allocR | apply Ext.drewR | apply Ext.drewNR | (refine Ext.trans' ?_ (by assumption))))
    rintro e w1 ⟨rfl, hb1⟩
    have hE1 : Ext w0 w1 := by (repeat' (first | exact Ext.refl _ | assumption | apply Ext.allocR | apply Ext.drewR | apply Ext.drewNR | (refine Ext.trans' ?_ (by assumption))))
    obtain ⟨p0, p1, f0, f1, hl⟩ := zbox HZ0.out hE1
    go_wp2_with fail
    refine bodyPost_ret (v := .tuple #[.agg #[.int .i64 0, .int .u64 0], .int .i64 3]) (by simp [results, Try.results30, go_sem, *]) rfl ⟨rfl, ?_⟩
    exact (((hE0.trans' hE1).setR (p := ⟨w.heap.size, 0, none⟩) (Nat.le_refl _) _).setR (p := ⟨w.heap.size, 1, none⟩) (Nat.le_refl _) _).allocR _
end Go.Proofs.Ytpnbgoahjoabkaa

/- inner.Inner of two sketches of one config in the mode Linear: the least product of two rows. -/
namespace Go.Proofs.Ytpnbgoahjoabkaa
set_option linter.unusedVariables false
open Go.RowKit

set_option maxRecDepth 20000 in
set_option maxHeartbeats 8000000 in
theorem Inner_c (s b c s2 b2 c2 : Nat) (C : Cfg) (lv : Int) (R W : Nat) (l m : List Int) (w : World) (h : SAt w s b c C lv R W l) (h2 : SAt w s2 b2 c2 C lv R W m) (hm : C.mode = 1) :
    Calls Try.prog 30 #[.pointer (some ⟨s, 0, none⟩), .pointer (some ⟨s2, 0, none⟩)] w fun e w' => e = .returned (innV (innF l m W R)) ∧ Ext w w' := by
  have H := Lib.hid h
  have H2 := Lib.hid h2
  have hm' : (C.mode != 1) = false := by simp [hm]
  have hR := h.hr
  have hW := h.hw
  have hR1 := h.g.r1
  have hR8 := h.g.r2
  have hW1 := h.g.w1
  have hW8 := h.g.w2
  have HR := Lib.hid hR
  have HW := Lib.hid hW
  have HL := Lib.hid h.g.len
  have HL2 := Lib.hid h2.g.len
  have HI := Lib.hid h.fit
  have HI2 := Lib.hid h2.fit
  clear h h2 hm hR hW
  go_enter Try.func30, Try.ntmps30
  go_upto_region 1 with (fail)
  have hz0 := heap_at w (.cells #[.int .i64 0, .int .u64 0] 40) rfl
  have hE0 : Ext w (w.alloc (.cells #[.int .i64 0, .int .u64 0] 40)) := Ext.alloc' _ _
  generalize w.alloc (.cells #[.int .i64 0, .int .u64 0] 40) = w0 at *
  have HZ0 := Lib.hid hz0
  clear hz0
  go_cut [34] (fun s34 wx => s34 = .bool false ∧ Ext w0 wx)
  case first =>
    go_wp2_with (first | (go_at_call 44; refine (SConfig_c s b c C lv R W l _ (H.out.ext (by (repeat' (first | exact Ext.refl _ | assumption | apply Ext.allocR | apply Ext.drewR | apply Ext.drewNR | (refine Ext.trans' ?_ (by assumption))))))).mono ?_; rintro e w1 ⟨rfl, hb1⟩) | (go_at_call 44; refine (SConfig_c s2 b2 c2 C lv R W m _ (H2.out.ext (by (repeat' (first | exact Ext.refl _ | assumption | apply Ext.allocR | apply Ext.drewR | apply Ext.drewNR | (refine Ext.trans' ?_ (by assumption))))))).mono ?_; rintro e w2 ⟨rfl, hb2⟩) | (go_at_call 45; refine (SLevel_c s b c C lv R W l _ (H.out.ext (by (repeat' (first | exact Ext.refl _ | assumption | apply Ext.allocR | apply Ext.drewR | apply Ext.drewNR | (refine Ext.trans' ?_ (by assumption))))))).mono ?_; rintro e w3 ⟨rfl, rfl⟩) | (go_at_call 45; refine (SLevel_c s2 b2 c2 C lv R W m _ (H2.out.ext (by (repeat' (first | exact Ext.refl _ | assumption | apply Ext.allocR | apply Ext.drewR | apply Ext.drewNR | (refine Ext.trans' ?_ (by assumption))))))).mono ?_; rintro e w4 ⟨rfl, rfl⟩))
    go_meet
    exact ⟨by first | rfl | simp, by (repeat' (first | exact Ext.refl _ | assumption | apply Ext.allocR | apply Ext.drewR | apply Ext.drewNR | (refine Ext.trans' ?_ (by assumption))))⟩
  case rest =>
    obtain ⟨rfl, hEc⟩ := hcut
    go_wp2_with fail
    refine Calls.mono (SConfig_c s b c C lv R W l _ (H.out.ext ?hx)) ?_
    case hx => (repeat' (first | exact Ext.refl _ | assumption | apply Ext.allocR | apply Ext.drewR | apply Ext.drewNR | (refine Ext.trans' ?_ (by assumption))))
    rintro e w1 ⟨rfl, hb1⟩
    have hE1 : Ext w0 w1 := by (repeat' (first | exact Ext.refl _ | assumption | apply Ext.allocR | apply Ext.drewR | apply Ext.drewNR | (refine Ext.trans' ?_ (by assumption))))
    have hCb : CfgAt (w1.alloc (.cells #[.int .i64 C.bits, .int .i64 C.rows, .int .i64 C.width, .int .i64 C.mode, .int .u64 C.seed] 24)) w1.heap.size C := CfgAt.box C _ rfl
    have hEB : Ext w1 (w1.alloc (.cells #[.int .i64 C.bits, .int .i64 C.rows, .int .i64 C.width, .int .i64 C.mode, .int .u64 C.seed] 24)) := Ext.alloc' _ _
    clear hb1 hEc
    go_wp2_with fail
    generalize w1.alloc (.cells #[.int .i64 C.bits, .int .i64 C.rows, .int .i64 C.width, .int .i64 C.mode, .int .u64 C.seed] 24) = w2 at *
    have hE2 := hE1.trans' hEB
    refine Calls.mono (SCells_c s b c C lv R W l _ (H.out.ext (by (repeat' (first | exact Ext.refl _ | assumption | apply Ext.allocR | apply Ext.drewR | apply Ext.drewNR | (refine Ext.trans' ?_ (by assumption))))))) ?_
    rintro e w3 ⟨v3, rfl, ho3, _, hx3⟩
    have hE3 : Ext w2 w3 := hx3
    have hi3 := IntsAt.of_row ho3
    obtain ⟨g1, o1, k1, rfl, hg1, hc1⟩ := hi3.slice (by rw [HL.out]; exact Nat.mul_pos hR1 hW1)
    obtain ⟨cp1, hcp1⟩ : ∃ c1, R * W ≤ k1 := ⟨0, by
      have h2 := ho3.2.resolve_left (fun h => by cases h.1)
      obtain ⟨g', cap', cur, hv', _, _, hc', _⟩ := h2
      have := (Value.slice.inj hv').2.2
      rw [HL.out] at hc'
      omega⟩
    rw [HL.out] at hi3 hc1 ⊢
    have HC1 := Lib.hid hc1
    clear ho3 hx3 hi3 hc1
    go_wp2_with fail
    refine Calls.mono (SCells_c s2 b2 c2 C lv R W m _ (H2.out.ext (by (repeat' (first | exact Ext.refl _ | assumption | apply Ext.allocR | apply Ext.drewR | apply Ext.drewNR | (refine Ext.trans' ?_ (by assumption))))))) ?_
    rintro e w4 ⟨v4, rfl, ho4, _, hx4⟩
    have hE4 : Ext w3 w4 := hx4
    have hi4 := IntsAt.of_row ho4
    obtain ⟨g2, o2, k2, rfl, hg2, hc2⟩ := hi4.slice (by rw [HL2.out]; exact Nat.mul_pos hR1 hW1)
    obtain ⟨cp2, hcp2⟩ : ∃ c1, R * W ≤ k2 := ⟨0, by
      have h2 := ho4.2.resolve_left (fun h => by cases h.1)
      obtain ⟨g', cap', cur, hv', _, _, hc', _⟩ := h2
      have := (Value.slice.inj hv').2.2
      rw [HL2.out] at hc'
      omega⟩
    rw [HL2.out] at hi4 hc2 ⊢
    have HC2 := Lib.hid hc2
    have hCb4 := hCb.ext (hE3.trans' hE4)
    have c1' := hCb4.c1
    have cl := hCb4.lt
    rw [HR.out] at c1'
    clear ho4 hx4 hi4 hc2
    have hE24 := hE3.trans' hE4
    have hEw4 : Ext w w4 := hE0.trans' (hE2.trans' hE24)
    have hz4 := (hE2.trans' hE24).keep HZ0.out
    have HZ4 := Lib.hid hz4
    have hg13 : g1 < w4.heap.size := Nat.lt_of_lt_of_le hg1 hE4.size
    have hc14 : ∀ j, j < R * W → w4.cell? ⟨g1, o1 + j, none⟩ = some (.int .i64 (l.getD j 0)) := fun j hj => ((bcell hE4).1 g1 _ hg1).trans (HC1.out j hj)
    have HC14 := Lib.hid hc14
    have HCB4 := Lib.hid hCb4
    have hN2 : R * W ≤ 1024 := Nat.le_trans (Nat.mul_le_mul hR8 hW8) (by decide)
    clear hz4 hc14 hCb4 hCb hE24 hE3 hE4 hE2 hE1 hEB HZ0 HC1 H H2
    go_wp2_with fail
    go_loopw [48] (fun u wr => ∃ (r : Nat) (best : Int), r ≤ R ∧ u = .int .i64 r ∧ innF l m W r = some best ∧ Ext w4 wr ∧ wr.heap[w4.heap.size]? = some (.cells #[.int .i64 (hi best), .int .u64 (lo best)] 40 (0, 0))) (fun u _ => R - (intOf u).toNat)
    case atStart => exact ⟨0, 0, Nat.zero_le _, rfl, rfl, Ext.alloc' _ _, heap_at _ _ rfl⟩
    case round =>
      obtain ⟨r, best, hr, rfl, hin, hE, hg9⟩ := hrel
      clear c1' cl
      by_cases hgo : r < R
      · have hCr := HCB4.out.ext hE
        have c2' := hCr.c2
        have cl := hCr.lt
        rw [HW.out] at c2'
        obtain ⟨f, hf⟩ : ∃ f, r * W = f := ⟨_, rfl⟩
        have hf1 : (r : Int) * (W : Int) = (f : Int) := by rw [← hf]; simp
        have hf2 : ((r : Int) + 1) * (W : Int) = ((f + W : Nat) : Int) := by rw [Int.add_mul, hf1]; simp
        have hfN : f + W ≤ R * W := by rw [← hf, ← Nat.succ_mul]; exact Nat.mul_le_mul_right _ hgo
        have hf1b : f + W ≤ 1024 := by omega
        have HIN := Lib.hid hin
        have HG9 := Lib.hid hg9
        have HFF := Lib.hid hf
        clear hin hg9 hCr hf
        go_wp2_with fail
        refine wp_region_after (by kernel_rfl) (by kernel_rfl) ?_
        repeat (go_big_quiet_step (fail))
        refine wpQuiet_nil ?_
        rintro _ ⟨xx, rfl⟩
        obtain ⟨wq, hq⟩ := xx
        try dsimp only
        obtain ⟨dt, hdt⟩ : ∃ dt, dotF (rowP l W r) (rowP m W r) W = dt := ⟨_, rfl⟩
        obtain ⟨rh, rl, ok, hdv, hok1, hok0⟩ : ∃ (rh rl : Int) (ok : Bool), dotV dt = .tuple #[.agg #[.int .i64 rh, .int .u64 rl], .bool ok] ∧ (ok = true → ∃ n, dt = some n ∧ rh = hi n ∧ rl = lo n) ∧ (ok = false → dt = none) := by
          cases dt with
          | none => exact ⟨0, 0, false, rfl, (fun h => by cases h), (fun _ => rfl)⟩
          | some n => exact ⟨hi n, lo n, true, rfl, (fun _ => ⟨n, rfl, rfl, rfl⟩), (fun h => by cases h)⟩
        have hEq : Ext w4 wq := hE.trans' hq
        have hi1 : ∀ (cc : Nat) (w' : World), Ext w4 w' → IntsAt w' (.slice (some ⟨g1, o1 + f, none⟩) W cc) (rowP l W r) := fun cc w' hE' => .inr ⟨g1, o1 + f, cc, by rw [rowP_len], Nat.lt_of_lt_of_le hg13 hE'.size, fun k hk => by
          rw [rowP_len] at hk
          rw [rowP_get _ hk, HFF.out, Nat.add_assoc]
          exact ((bcell hE').1 g1 _ hg13).trans (HC14.out (f + k) (by omega))⟩
        have hi2 : ∀ (cc : Nat) (w' : World), Ext w4 w' → IntsAt w' (.slice (some ⟨g2, o2 + f, none⟩) W cc) (rowP m W r) := fun cc w' hE' => .inr ⟨g2, o2 + f, cc, by rw [rowP_len], Nat.lt_of_lt_of_le hg2 hE'.size, fun k hk => by
          rw [rowP_len] at hk
          rw [rowP_get _ hk, HFF.out, Nat.add_assoc]
          exact ((bcell hE').1 g2 _ hg2).trans (HC2.out (f + k) (by omega))⟩
        have hdot : ∀ (cc cc2 : Nat) (w' : World), Ext w4 w' → Calls Try.prog 88 #[.slice (some ⟨g1, o1 + f, none⟩) W cc, .slice (some ⟨g2, o2 + f, none⟩) W cc2] w' fun e w'' => e = .returned (.tuple #[.agg #[.int .i64 rh, .int .u64 rl], .bool ok]) ∧ Ext w' w'' := by
          intro cc cc2 w' hE'
          have := Dot_c (rowP l W r) (rowP m W r) _ _ w' (rowP_all HI.out W r) (rowP_all HI2.out W r) (by rw [rowP_len, rowP_len]) (by rw [rowP_len]; omega) (hi1 cc w' hE') (hi2 cc2 w' hE')
          rw [rowP_len, hdt, hdv] at this
          exact this
        have HDOT := Lib.hid hdot
        have HDT := Lib.hid hdt
        have HOK1 := Lib.hid hok1
        have HOK0 := Lib.hid hok0
        clear hi1 hi2 hdot hdv hok1 hok0 hdt c2' cl hf1 hf2
        go_upto_region 12 with (fail)
        go_cut [13, 14] (fun s13 s14 wx => ∃ z : Nat, s13 = .pointer (some ⟨z, 0, none⟩) ∧ s14 = .bool ok ∧ wx.heap[z]? = some (.cells #[.int .i64 rh, .int .u64 rl] 40 (0, 0)) ∧ Ext wq wx ∧ wq.heap.size ≤ z)
        case first =>
          have hC0 := af_drew wq
          refine pi_start (fun w' => ∃ x : After wq, w' = x.w) [] (by kernel_rfl) ?_
          refine pi_t 0 rfl (by kernel_rfl) (by kernel_rfl) (fun _ _ _ _ h => h) (fun K hK => ?_)
          go_big_quiet_op
          refine hK _ ?_
          clear hK K
          refine pi_t 1 rfl (by kernel_rfl) (by kernel_rfl) (fun _ _ _ _ h => h) (fun K hK => ?_)
          go_big_quiet_op
          refine hK _ ?_
          clear hK K
          refine pi_t 2 rfl (by kernel_rfl) (by kernel_rfl) (fun _ _ _ _ h => h) (fun K hK => ?_)
          go_big_quiet_op
          refine hK _ ?_
          clear hK K
          refine pi_t 3 rfl (by kernel_rfl) (by kernel_rfl) (fun _ _ _ _ h => h) (fun K hK => ?_)
          go_big_quiet_op
          refine hK _ ?_
          clear hK K
          refine pi_t 4 rfl (by kernel_rfl) (by kernel_rfl) (fun _ _ _ _ h => h) (fun K hK => ?_)
          go_big_quiet_op
          refine hK _ ?_
          clear hK K
          refine pi_t 5 rfl (by kernel_rfl) (by kernel_rfl) (fun _ _ _ _ h => h) (fun K hK => ?_)
          go_big_quiet_op
          refine hK _ ?_
          clear hK K
          refine pi_t 6 rfl (by kernel_rfl) (by kernel_rfl) (fun _ _ _ _ h => h) (fun K hK => ?_)
          go_big_quiet_op
          refine hK _ ?_
          clear hK K
          refine pi_t 7 rfl (by kernel_rfl) (by kernel_rfl) (fun _ _ _ _ h => h) (fun K hK => ?_)
          go_big_quiet_op
          refine hK _ ?_
          clear hK K
          refine pi_t 8 rfl (by kernel_rfl) (by kernel_rfl) (fun _ _ _ _ h => h) (fun K hK => ?_)
          go_big_quiet_op
          refine hK _ ?_
          clear hK K
          refine pi_t 9 rfl (by kernel_rfl) (by kernel_rfl) (fun _ _ _ _ h => h) (fun K hK => ?_)
          go_big_quiet_op
          refine hK _ ?_
          clear hK K
          refine pi_b 10 14 rfl rfl (by kernel_rfl) (fun K hK => ?_) (fun K hK => ?_)
          · rw [Nat.add_sub_cancel_left]
            go_wp2_with (go_at_call 88; refine (HDOT.out _ _ _ (hEq.trans' (by (repeat' (first | exact Ext.refl _ | assumption | apply Ext.allocR | apply Ext.drewR | apply Ext.drewNR | (refine Ext.trans' ?_ (by assumption))))))).mono ?_; rintro e wa ⟨rfl, hxa⟩)
            refine hK _ _ (fun _ h => af_step h hxa) ?_
            clear hK K
            have hEa : Ext wq wa := Ext.trans' (Below.drew (Ext.refl wq)) hxa
            refine pi_t 11 rfl (by kernel_rfl) (by kernel_rfl) (fun _ _ _ _ h => h) (fun K hK => ?_)
            go_big_quiet_op
            refine hK _ ?_
            clear hK K
            refine pi_t 12 rfl (by kernel_rfl) (by kernel_rfl) (fun _ _ _ _ h => h) (fun K hK => ?_)
            go_big_quiet_op
            refine hK _ ?_
            clear hK K
            refine pi_t 13 rfl (by kernel_rfl) (by kernel_rfl) (fun _ _ _ _ h => h) (fun K hK => ?_)
            go_big_quiet_op
            refine hK _ ?_
            clear hK K
            refine pi_l 14 rfl (by kernel_rfl) (fun K hK => ?_)
            go_wp2
            refine hK _ _ (fun _ h => af_step h (Ext.alloc' _ _)) ?_
            clear hK K
            refine pi_l 15 rfl (by kernel_rfl) (fun K hK => ?_)
            go_wp2
            have hsz := hEa.size
            refine hK _ _ (fun _ h => ⟨⟨_, hEa.allocR _⟩, rfl⟩) ?_
            clear hK K
            refine pi_t 16 rfl (by kernel_rfl) (by kernel_rfl) (fun _ _ _ _ h => h) (fun K hK => ?_)
            go_big_quiet_op
            refine hK _ ?_
            clear hK K
            refine pi_end (by kernel_rfl) ?_
            go_wp2_with fail
            go_meet
            exact ⟨_, rfl, rfl, heap_at _ _ rfl, hEa.allocR _, hsz⟩
          · go_wp2
            refine hK _ _ (fun _ h => af_step h (Ext.alloc' _ _)) ?_
            clear hK K
            refine pi_l 10 rfl (by kernel_rfl) (fun K hK => ?_)
            rw [Nat.add_sub_cancel_left]
            go_wp2_with (go_at_call 88; refine (HDOT.out _ _ _ (hEq.trans' (by (repeat' (first | exact Ext.refl _ | assumption | apply Ext.allocR | apply Ext.drewR | apply Ext.drewNR | (refine Ext.trans' ?_ (by assumption))))))).mono ?_; rintro e wa ⟨rfl, hxa⟩)
            refine hK _ _ (fun _ h => af_step h hxa) ?_
            clear hK K
            have hEa : Ext wq wa := Ext.trans' (Ext.alloc' wq _) (Ext.trans' (Below.drew (Ext.refl _)) hxa)
            have hbx : wa.heap[wq.heap.size]? = some (.cells #[.int .i64 0, .int .u64 0] 40 (0, 0)) := hxa.keep (heap_at wq.drew _ rfl)
            have p0 := (cell_of hbx 0).trans rfl
            have p1 := (cell_of hbx 1).trans rfl
            have f0 := frozen_of hbx 0
            have f1 := frozen_of hbx 1
            have HBX := Lib.hid hbx
            clear hbx
            refine pi_t 11 rfl (by kernel_rfl) (by kernel_rfl) (fun _ _ _ _ h => h) (fun K hK => ?_)
            go_big_quiet_op
            refine hK _ ?_
            clear hK K
            refine pi_t 12 rfl (by kernel_rfl) (by kernel_rfl) (fun _ _ _ _ h => h) (fun K hK => ?_)
            go_big_quiet_op
            refine hK _ ?_
            clear hK K
            refine pi_t 13 rfl (by kernel_rfl) (by kernel_rfl) (fun _ _ _ _ h => h) (fun K hK => ?_)
            go_big_quiet_op
            refine hK _ ?_
            clear hK K
            refine pi_l 15 rfl (by kernel_rfl) (fun K hK => ?_)
            go_wp2
            refine hK _ _ (fun _ h => ⟨⟨_, (hEa.setR (p := ⟨wq.heap.size, 0, none⟩) (Nat.le_refl _) _).setR (p := ⟨wq.heap.size, 1, none⟩) (Nat.le_refl _) _⟩, rfl⟩) ?_
            clear hK K
            refine pi_t 16 rfl (by kernel_rfl) (by kernel_rfl) (fun _ _ _ _ h => h) (fun K hK => ?_)
            go_big_quiet_op
            refine hK _ ?_
            clear hK K
            refine pi_end (by kernel_rfl) ?_
            go_wp2_with fail
            go_meet
            exact ⟨_, rfl, rfl, set2 HBX.out _ _, (hEa.setR (p := ⟨wq.heap.size, 0, none⟩) (Nat.le_refl _) _).setR (p := ⟨wq.heap.size, 1, none⟩) (Nat.le_refl _) _, Nat.le_refl _⟩
        case rest =>
          obtain ⟨z, rfl, rfl, hz, hEc, hzz⟩ := hcut
          have hEx := hEq.trans' hEc
          have y0 := (cell_of hz 0).trans rfl
          have y1 := (cell_of hz 1).trans rfl
          have zl := lt_of hz
          have hg9 := (hq.trans' hEc).keep HG9.out
          have hls := lt_of HG9.out
          have hqs := hq.size
          cases ok
          · have hnn : innF l m W (r + 1) = none := by
              have h1 := HOK0.out rfl
              simp only [innF, HIN.out, HDT.out, h1, Option.bind_some, Option.bind_none]
            have hnil := innF_none hnn (n := R) (by omega)
            obtain ⟨p0, p1, f0, f1, hl⟩ := zbox HZ4.out hEx
            have HNIL := Lib.hid hnil
            clear hg9 hnn hnil
            go_wp2_with fail
            refine bodyPost_ret (v := .tuple #[.agg #[.int .i64 0, .int .u64 0], .int .i64 4]) (by simp [results, Try.results30, go_sem, *]) rfl ⟨by rw [HNIL.out]; rfl, ?_⟩
            exact ((hEw4.trans' hEx).setR (p := ⟨w.heap.size, 0, none⟩) (Nat.le_refl _) _).setR (p := ⟨w.heap.size, 1, none⟩) (Nat.le_refl _) _
          · obtain ⟨n, rfl, rfl, rfl⟩ := HOK1.out rfl
            have a0 := (cell_of hg9 0).trans rfl
            have a1 := (cell_of hg9 1).trans rfl
            have f0 := frozen_of hg9 0
            have f1 := frozen_of hg9 1
            have HG9' := Lib.hid hg9
            have hss : innF l m W (r + 1) = some (bif decide (r = 0) || decide (n < best) then n else best) := by
              simp only [innF, HIN.out, HDT.out, Option.bind_some]
            by_cases hr0 : r = 0
            · have hr0' : ((r : Int) == 0) = true := by simp [hr0]
              have hdd : (decide (r = 0) || decide (n < best)) = true := by simp [hr0]
              rw [hdd] at hss
              have HSS := Lib.hid hss
              clear hg9 hss hdd hr0
              go_wp2_with fail
              go_roundw
              case rel =>
                exact ⟨r + 1, n, by omega, by go_num, HSS.out, (hEx.setR (p := ⟨w4.heap.size, 0, none⟩) (Nat.le_refl _) _).setR (p := ⟨w4.heap.size, 1, none⟩) (Nat.le_refl _) _, set2 HG9'.out _ _⟩
              case measure => simp [intOf]; omega
            · have hr0' : ((r : Int) == 0) = false := by simpa using hr0
              by_cases hlt : n < best
              · have hdd : (decide (r = 0) || decide (n < best)) = true := by simp [hlt]
                rw [hdd] at hss
                have HSS := Lib.hid hss
                clear hg9 hss hdd hr0
                go_wp2_with fail
                refine Calls.mono (Less_c n best _) ?_
                rintro e wl ⟨rfl, hxl⟩
                rw [decide_eq_true hlt]
                have hz' := hxl.keep hz
                have y0' := (cell_of hz' 0).trans rfl
                have y1' := (cell_of hz' 1).trans rfl
                have zl' := lt_of hz'
                have hg9' := hxl.keep HG9'.out
                have a0' := (cell_of hg9' 0).trans rfl
                have a1' := (cell_of hg9' 1).trans rfl
                have f0' := frozen_of hg9' 0
                have f1' := frozen_of hg9' 1
                have HG9'' := Lib.hid hg9'
                clear hg9' hz'
                go_wp2_with fail
                go_roundw
                case rel =>
                  exact ⟨r + 1, n, by omega, by go_num, HSS.out, ((hEx.trans' hxl).setR (p := ⟨w4.heap.size, 0, none⟩) (Nat.le_refl _) _).setR (p := ⟨w4.heap.size, 1, none⟩) (Nat.le_refl _) _, set2 HG9''.out _ _⟩
                case measure => simp [intOf]; omega
              · have hdd : (decide (r = 0) || decide (n < best)) = false := by simp [hlt, hr0]
                rw [hdd] at hss
                have HSS := Lib.hid hss
                clear hg9 hss hdd hr0
                go_wp2_with fail
                refine Calls.mono (Less_c n best _) ?_
                rintro e wl ⟨rfl, hxl⟩
                rw [decide_eq_false (show ¬ n < best by omega)]
                have hg9' := hxl.keep HG9'.out
                have HG9'' := Lib.hid hg9'
                clear hg9'
                go_wp2_with fail
                go_roundw
                case rel => exact ⟨r + 1, best, by omega, by go_num, HSS.out, hEx.trans' hxl, HG9''.out⟩
                case measure => simp [intOf]; omega
      · obtain rfl : r = R := by omega
        have HIN := Lib.hid hin
        have a0 := (cell_of hg9 0).trans rfl
        have a1 := (cell_of hg9 1).trans rfl
        have al := lt_of hg9
        obtain ⟨p0, p1, f0, f1, hl⟩ := zbox HZ4.out hE
        clear hin hg9
        go_wp2_with fail
        refine bodyPost_ret (v := .tuple #[.agg #[.int .i64 (hi best), .int .u64 (lo best)], .int .i64 0]) (by simp [results, Try.results30, go_sem, *]) rfl ⟨by rw [HIN.out]; rfl, ?_⟩
        exact ((hEw4.trans' hE).setR (p := ⟨w.heap.size, 0, none⟩) (Nat.le_refl _) _).setR (p := ⟨w.heap.size, 1, none⟩) (Nat.le_refl _) _
end Go.Proofs.Ytpnbgoahjoabkaa

/- gaugerref07.Right of any config. -/
namespace Go.Proofs.Ytpnbgoahjoabkaa
set_option linter.unusedVariables false
open Go.RowKit
set_option maxRecDepth 20000 in
set_option maxHeartbeats 2000000 in
theorem RightR_raw (c : Cfg) (w : World) :
    Calls Try.prog 58 #[.agg #[.int .i64 c.bits, .int .i64 c.rows, .int .i64 c.width, .int .i64 c.mode, .int .u64 c.seed]] w fun e w' => e = .returned (.bool (okB c)) ∧ Ext w w' := by
  have hO : okB c = (decide (1 ≤ c.bits ∧ c.bits ≤ 59) && (decide (1 ≤ c.rows ∧ c.rows ≤ 8) && (decide (1 ≤ c.width ∧ c.width ≤ 128) && decide (1 ≤ c.mode ∧ c.mode ≤ 3)))) := by
    unfold okB; simp only [Bool.decide_and, Bool.and_assoc]
  rw [hO]
  clear hO
  obtain ⟨B1, hB1⟩ : ∃ B, decide (1 ≤ c.bits ∧ c.bits ≤ 59) = B := ⟨_, rfl⟩
  obtain ⟨B2, hB2⟩ : ∃ B, decide (1 ≤ c.rows ∧ c.rows ≤ 8) = B := ⟨_, rfl⟩
  obtain ⟨B3, hB3⟩ : ∃ B, decide (1 ≤ c.width ∧ c.width ≤ 128) = B := ⟨_, rfl⟩
  rw [hB1, hB2, hB3]
  have H1 := Lib.hid hB1
  have H2 := Lib.hid hB2
  have H3 := Lib.hid hB3
  clear hB1 hB2 hB3
  go_enter Try.func58, Try.ntmps58
  go_upto_region 1 with (fail)
  go_cut [3] (fun s3 wx => s3 = .bool B1 ∧ wx = w.alloc (.cells #[.int .i64 c.bits, .int .i64 c.rows, .int .i64 c.width, .int .i64 c.mode, .int .u64 c.seed] 24))
  case first =>
    by_cases h1 : 1 ≤ c.bits
    · by_cases h2 : c.bits ≤ 59
      · go_wp2
        go_meet
        exact ⟨by rw [← H1.out, decide_eq_true (by omega)], rfl⟩
      · go_wp2
        go_meet
        exact ⟨by rw [← H1.out, decide_eq_false (by omega)], rfl⟩
    · go_wp2
      go_meet
      exact ⟨by rw [← H1.out, decide_eq_false (by omega)], rfl⟩
  case rest =>
    obtain ⟨rfl, rfl⟩ := hcut
    go_upto_region 2 with (fail)
    go_cut [4] (fun s3 wx => s3 = .bool B2 ∧ wx = w.alloc (.cells #[.int .i64 c.bits, .int .i64 c.rows, .int .i64 c.width, .int .i64 c.mode, .int .u64 c.seed] 24))
    case first =>
      by_cases h1 : 1 ≤ c.rows
      · by_cases h2 : c.rows ≤ 8
        · go_wp2
          go_meet
          exact ⟨by rw [← H2.out, decide_eq_true (by omega)], rfl⟩
        · go_wp2
          go_meet
          exact ⟨by rw [← H2.out, decide_eq_false (by omega)], rfl⟩
      · go_wp2
        go_meet
        exact ⟨by rw [← H2.out, decide_eq_false (by omega)], rfl⟩
    case rest =>
      obtain ⟨rfl, rfl⟩ := hcut
      go_upto_region 3 with (fail)
      go_cut [5] (fun s3 wx => s3 = .bool B3 ∧ wx = w.alloc (.cells #[.int .i64 c.bits, .int .i64 c.rows, .int .i64 c.width, .int .i64 c.mode, .int .u64 c.seed] 24))
      case first =>
        by_cases h1 : 1 ≤ c.width
        · by_cases h2 : c.width ≤ 128
          · go_wp2
            go_meet
            exact ⟨by rw [← H3.out, decide_eq_true (by omega)], rfl⟩
          · go_wp2
            go_meet
            exact ⟨by rw [← H3.out, decide_eq_false (by omega)], rfl⟩
        · go_wp2
          go_meet
          exact ⟨by rw [← H3.out, decide_eq_false (by omega)], rfl⟩
      case rest =>
        obtain ⟨rfl, rfl⟩ := hcut
        cases B1 with
        | false => go_wp2; go_ret; exact ⟨rfl, Ext.alloc' _ _⟩
        | true =>
          cases B2 with
          | false => go_wp2; go_ret; exact ⟨rfl, Ext.alloc' _ _⟩
          | true =>
            cases B3 with
            | false => go_wp2; go_ret; exact ⟨rfl, Ext.alloc' _ _⟩
            | true =>
              by_cases hm1 : c.mode = 1
              · have k1 : (c.mode == 1) = true := by simp [hm1]
                have hd : decide (1 ≤ c.mode ∧ c.mode ≤ 3) = true := decide_eq_true (by omega)
                clear hm1
                go_wp2; go_ret; exact ⟨by rw [hd]; rfl, Ext.alloc' _ _⟩
              · have k1 : (c.mode == 1) = false := by simpa using hm1
                by_cases hm2 : c.mode = 2
                · have k2 : (c.mode == 2) = true := by simp [hm2]
                  have hd : decide (1 ≤ c.mode ∧ c.mode ≤ 3) = true := decide_eq_true (by omega)
                  clear hm1 hm2
                  go_wp2; go_ret; exact ⟨by rw [hd]; rfl, Ext.alloc' _ _⟩
                · have k2 : (c.mode == 2) = false := by simpa using hm2
                  by_cases hm3 : c.mode = 3
                  · have k3 : (c.mode == 3) = true := by simp [hm3]
                    have hd : decide (1 ≤ c.mode ∧ c.mode ≤ 3) = true := decide_eq_true (by omega)
                    clear hm1 hm2 hm3
                    go_wp2; go_ret; exact ⟨by rw [hd]; rfl, Ext.alloc' _ _⟩
                  · have k3 : (c.mode == 3) = false := by simpa using hm3
                    have hd : decide (1 ≤ c.mode ∧ c.mode ≤ 3) = false := decide_eq_false (by omega)
                    clear hm1 hm2 hm3
                    go_wp2; go_ret; exact ⟨by rw [hd]; rfl, Ext.alloc' _ _⟩
end Go.Proofs.Ytpnbgoahjoabkaa

/- gaugerlaw11.shown. -/
namespace Go.Proofs.Ytpnbgoahjoabkaa
set_option linter.unusedVariables false
open Go.RowKit

def D0 : Cfg := ⟨2, 2, 1, 1, 0⟩
theorem D0_ok : D0.Ok := by constructor <;> simp [D0, U64]
theorem D0_cols (k : Int) : cols D0 0 k = [0, 0] := by
  have h0 := col_bd D0 (by simp [D0]) 0 k (0 : Nat)
  have h1 := col_bd D0 (by simp [D0]) 0 k (1 : Nat)
  have e0 : col D0 0 k (0 : Nat) = 0 := by have : D0.width = 1 := rfl; omega
  have e1 : col D0 0 k (1 : Nat) = 0 := by have : D0.width = 1 := rfl; omega
  show (List.range 2).map _ = _
  rw [show List.range 2 = [0, 1] from rfl]
  simp only [List.map_cons, List.map_nil]
  rw [e0, e1]
theorem D0_keys : keys D0 0 = 4 := by simp [keys, D0]
theorem D0_e1 : errU D0 0 2 1 [0, 0] 1 5 = 0 := by unfold errU; rw [D0_cols, D0_keys]; rfl
theorem D0_u1 : updL D0 0 2 1 [0, 0] 1 5 = [5, 5] := by unfold updL; rw [D0_cols]; rfl
theorem D0_e2 : errU D0 0 2 1 [0, 0] 2 7 = 0 := by unfold errU; rw [D0_cols, D0_keys]; rfl
theorem D0_u2 : updL D0 0 2 1 [0, 0] 2 7 = [7, 7] := by unfold updL; rw [D0_cols]; rfl
theorem D0_in : innF [5, 5] [7, 7] 1 2 = some 35 := by decide
theorem D_m5 : dotF [1, 2] [3, -4] 2 = some (-5) := by decide
theorem V35 : innV (some 35) = .tuple #[.agg #[.int .i64 0, .int .u64 35], .int .i64 0] := rfl
theorem Vm5 : dotV (some (-5)) = .tuple #[.agg #[.int .i64 (-1), .int .u64 18446744073709551611], .bool true] := rfl
theorem Of35 (w : World) : Calls Try.prog 89 #[.int .i64 35] w fun e w' => e = .returned (.agg #[.int .i64 0, .int .u64 35]) ∧ Ext w w' := Of_c 35 (by unfold I64; omega) w
theorem Ofm5 (w : World) : Calls Try.prog 89 #[.int .i64 (-5)] w fun e w' => e = .returned (.agg #[.int .i64 (-1), .int .u64 18446744073709551611]) ∧ Ext w w' := Of_c (-5) (by unfold I64; omega) w
theorem wbox {w0 wx : World} {b : Nat} {x y : Value} (h : w0.heap[b]? = some (.cells #[x, y] 40 (0, 0))) (hE : Ext w0 wx) :
    wx.cell? ⟨b, 0, none⟩ = some x ∧ wx.cell? ⟨b, 1, none⟩ = some y ∧ b < wx.heap.size :=
  have h' := hE.keep h
  ⟨(cell_of h' 0).trans rfl, (cell_of h' 1).trans rfl, lt_of h'⟩
theorem updpost {w w' : World} {s b c : Nat} {C : Cfg} {lv : Int} {R W : Nat} {l : List Int} {key d : Int} {e : Ending} (h : UpdPost w s b c C lv R W l key d e w') (he : errU C lv R W l key d = 0) :
    e = .returned (.int .i64 0) ∧ SAt w' s b c C lv R W (updL C lv R W l key d) ∧ Mod (fun k => k = c) w w' := by
  obtain ⟨h1, h2⟩ := h
  obtain ⟨_, hS, hM⟩ := h2.resolve_right (fun h => h.1 he)
  rw [he] at h1
  exact ⟨h1, hS, hM⟩
set_option maxRecDepth 20000 in
set_option maxHeartbeats 4000000 in
theorem shown11_c (w : World) : Calls Try.prog 24 #[] w fun e w' => e = .returned (.bool true) ∧ Ext w w' := by
  go_enter Try.func24, Try.ntmps24
  go_wp2_with fail
  have hCb : CfgAt (w.alloc (.cells #[.int .i64 2, .int .i64 2, .int .i64 1, .int .i64 1, .int .u64 0] 24)) w.heap.size D0 := CfgAt.box D0 _ rfl
  have hE0 : Ext w (w.alloc (.cells #[.int .i64 2, .int .i64 2, .int .i64 1, .int .i64 1, .int .u64 0] 24)) := Ext.alloc' _ _
  generalize w.alloc (.cells #[.int .i64 2, .int .i64 2, .int .i64 1, .int .i64 1, .int .u64 0] 24) = w0 at *
  refine (SNew_c D0 D0_ok 0 (by decide) (by decide) 2 1 rfl rfl _).mono ?_
  rintro e w1 ⟨s, b, c, rfl, hS, hs, hb, hc, hx1⟩
  have hE1 : Ext w0 w1 := by (repeat' (first | exact Ext.refl _ | assumption | apply Ext.allocR | apply Ext.drewR | apply Ext.drewNR | (refine Ext.trans' ?_ (by assumption))))
  have hC1 := hCb.ext hE1
  have d0 : w1.cell? ⟨w.heap.size, 0, none⟩ = some (.int .i64 2) := hC1.c0
  have d1 : w1.cell? ⟨w.heap.size, 1, none⟩ = some (.int .i64 2) := hC1.c1
  have d2 : w1.cell? ⟨w.heap.size, 2, none⟩ = some (.int .i64 1) := hC1.c2
  have d3 : w1.cell? ⟨w.heap.size, 3, none⟩ = some (.int .i64 1) := hC1.c3
  have d4 : w1.cell? ⟨w.heap.size, 4, none⟩ = some (.int .u64 0) := hC1.c4
  have dl := hC1.lt
  have hlt1 := hS.lts
  have hlt2 := hS.g.ltb
  have hlt3 := hS.g.ltc
  have hsz0 := hE0.size
  have hsz1 := hE1.size
  have HS := Lib.hid hS
  clear hx1 hC1 hCb hS
  go_wp2_with fail
  refine (SNew_c D0 D0_ok 0 (by decide) (by decide) 2 1 rfl rfl _).mono ?_
  rintro e w2 ⟨s2, b2, c2, rfl, hS2, hs2, hb2, hc2, hx2⟩
  have hE2 : Ext w1 w2 := by (repeat' (first | exact Ext.refl _ | assumption | apply Ext.allocR | apply Ext.drewR | apply Ext.drewNR | (refine Ext.trans' ?_ (by assumption))))
  have hsz2 := hE2.size
  have hlt4 := hS2.lts
  have hlt5 := hS2.g.ltb
  have hlt6 := hS2.g.ltc
  have HS2 := Lib.hid hS2
  clear hx2 d0 d1 d2 d3 d4 dl hS2
  go_wp2_with fail
  refine Calls.mono (Update_c s b c D0 0 2 1 _ 1 5 _ ((HS.out.ext hE2).ext ?hx) (by unfold I64; omega) (by decide)) ?_
  case hx => (repeat' (first | exact Ext.refl _ | assumption | apply Ext.allocR | apply Ext.drewR | apply Ext.drewNR | (refine Ext.trans' ?_ (by assumption))))
  intro e w3 hup
  obtain ⟨rfl, hS3, hM3⟩ := updpost hup D0_e1
  rw [show updL D0 0 2 1 (zs (2 * 1)) 1 5 = [5, 5] from D0_u1] at hS3
  have hT3 := HS2.out.mod hM3 (by omega) (by omega) (by omega)
  have hE3 : Ext w w3 := Below.trans (hE0.trans' (hE1.trans' hE2)) (hM3.below (B := w.heap.size) (by show _ ≤ w2.heap.size; omega) (fun i hi => by omega))
  have hsz3 := hM3.size
  have HS3 := Lib.hid hS3
  have HT3 := Lib.hid hT3
  clear hM3 hup hS3 hT3 HS HS2 hE0 hE1 hE2
  go_wp2_with fail
  refine Calls.mono (Update_c s2 b2 c2 D0 0 2 1 _ 2 7 _ (HT3.out.ext ?hx) (by unfold I64; omega) (by decide)) ?_
  case hx => (repeat' (first | exact Ext.refl _ | assumption | apply Ext.allocR | apply Ext.drewR | apply Ext.drewNR | (refine Ext.trans' ?_ (by assumption))))
  intro e w4 hup
  obtain ⟨rfl, hT4, hM4⟩ := updpost hup D0_e2
  rw [show updL D0 0 2 1 (zs (2 * 1)) 2 7 = [7, 7] from D0_u2] at hT4
  have hS4 := HS3.out.mod hM4 (by omega) (by omega) (by omega)
  have hE4 : Ext w w4 := Below.trans hE3 (hM4.below (B := w.heap.size) (by have := hE3.size; omega) (fun i hi => by omega))
  have HS4 := Lib.hid hS4
  have HT4 := Lib.hid hT4
  clear hM4 hup hS4 hT4 HS3 HT3 hE3
  go_wp2_with fail
  refine Calls.mono (Inner_c s b c s2 b2 c2 D0 0 2 1 [5, 5] [7, 7] _ (HS4.out.ext ?hx) (HT4.out.ext ?hy) rfl) ?_
  case hx => (repeat' (first | exact Ext.refl _ | assumption | apply Ext.allocR | apply Ext.drewR | apply Ext.drewNR | (refine Ext.trans' ?_ (by assumption))))
  case hy => (repeat' (first | exact Ext.refl _ | assumption | apply Ext.allocR | apply Ext.drewR | apply Ext.drewNR | (refine Ext.trans' ?_ (by assumption))))
  rw [D0_in, V35]
  rintro e w5 ⟨rfl, hx5⟩
  have hE5 : Ext w4 w5 := by (repeat' (first | exact Ext.refl _ | assumption | apply Ext.allocR | apply Ext.drewR | apply Ext.drewNR | (refine Ext.trans' ?_ (by assumption))))
  have hnb := heap_at w5 (.cells #[.int .i64 0, .int .u64 35] 40) rfl
  have hE5b : Ext w5 (w5.alloc (.cells #[.int .i64 0, .int .u64 35] 40)) := Ext.alloc' _ _
  go_wp2_with fail
  generalize w5.alloc (.cells #[.int .i64 0, .int .u64 35] 40) = w5b at *
  refine Calls.mono (Inner_nil2 s _) ?_
  rintro e w6 ⟨rfl, hx6⟩
  have hE6 : Ext w5b w6 := by (repeat' (first | exact Ext.refl _ | assumption | apply Ext.allocR | apply Ext.drewR | apply Ext.drewNR | (refine Ext.trans' ?_ (by assumption))))
  clear hx5 hx6
  go_wp2_with fail
  refine Calls.mono (Dot_c [1, 2] [3, -4] _ _ _ (by intro x hx; simp at hx; unfold I64; omega) (by intro x hx; simp at hx; unfold I64; omega) rfl (by simp) (.inr ⟨_, 0, 2, rfl, ?q1, ?q2⟩) (.inr ⟨_, 0, 2, rfl, ?q3, ?q4⟩)) ?_
  case q1 => simp only [size_alloc]; omega
  case q3 => simp only [size_alloc]; omega
  case q2 =>
    intro k hk
    have : k = 0 ∨ k = 1 := by simp at hk; omega
    rcases this with rfl | rfl <;> simp [go_sem]
  case q4 =>
    intro k hk
    have : k = 0 ∨ k = 1 := by simp at hk; omega
    rcases this with rfl | rfl <;> simp [go_sem]
  rw [show ([1, 2] : List Int).length = 2 from rfl, D_m5, Vm5]
  rintro e w7 ⟨rfl, hx7⟩
  have hE7 : Ext w6 w7 := by (repeat' (first | exact Ext.refl _ | assumption | apply Ext.allocR | apply Ext.drewR | apply Ext.drewNR | (refine Ext.trans' ?_ (by assumption))))
  have hdb := heap_at w7 (.cells #[.int .i64 (-1), .int .u64 18446744073709551611] 40) rfl
  have hE7b : Ext w7 (w7.alloc (.cells #[.int .i64 (-1), .int .u64 18446744073709551611] 40)) := Ext.alloc' _ _
  clear hx7
  go_wp2_with fail
  generalize w7.alloc (.cells #[.int .i64 (-1), .int .u64 18446744073709551611] 40) = w7b at *
  refine Calls.mono (Dot_no _ _ 1 1 0 0 _ (by decide) (by decide) (by decide)) ?_
  rintro e w8 ⟨rfl, hx8⟩
  have hE8 : Ext w7b w8 := by (repeat' (first | exact Ext.refl _ | assumption | apply Ext.allocR | apply Ext.drewR | apply Ext.drewNR | (refine Ext.trans' ?_ (by assumption))))
  obtain ⟨a0, a1, al⟩ := wbox hnb (hE6.trans' (hE7.trans' (hE7b.trans' hE8)))
  obtain ⟨b0, b1, bl⟩ := wbox hdb hE8
  have hEw : Ext w w8 := hE4.trans' (hE5.trans' (hE5b.trans' (hE6.trans' (hE7.trans' (hE7b.trans' hE8)))))
  clear hx8 hnb hdb hE4 hE5 hE5b hE6 hE7 hE7b hE8 HS4 HT4
  go_wp2_with fail
  refine wp_region_after (by kernel_rfl) (by kernel_rfl) ?_
  repeat (go_big_quiet_step ((first | (go_at_call 89; exact quiet_after (Of35 _)) | (go_at_call 89; exact quiet_after (Ofm5 _)))))
  refine wpQuiet_nil ?_
  rintro _ ⟨xx, rfl⟩
  obtain ⟨wq, hq⟩ := xx
  try dsimp only
  go_wp2
  go_ret
  exact ⟨rfl, (hEw.allocR _).trans' hq⟩
end Go.Proofs.Ytpnbgoahjoabkaa
