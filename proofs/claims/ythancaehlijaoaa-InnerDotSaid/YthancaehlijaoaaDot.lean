/- inner.Dot: sums of products, as long as each fits. -/
import Derived.Test.YthancaehlijaoaaTimes
import Derived.Test.YthancaehlijaoaaLinear
import Derived.Test.YthancaehlijaoaaTail
import Derived.Test.YthancaehlijaoaaRefs2
namespace Go.Proofs.Ythancaehlijaoaa
set_option linter.unusedVariables false
open Go.RowKit

theorem IntsAt.sl {w : World} {v : Value} {xs : List Int} (h : IntsAt w v xs) : ∃ p c, v = .slice p xs.length c := by
  rcases h with ⟨rfl, rfl⟩ | ⟨g, off, cap, rfl, _⟩
  · exact ⟨none, 0, rfl⟩
  · exact ⟨_, _, rfl⟩
theorem IntsAt.one {w : World} {p : Option Addr} {n c : Nat} {xs : List Int} (h : IntsAt w (.slice p n c) xs) {k : Nat} (hk : k < xs.length) :
    ∃ g off, p = some ⟨g, off, none⟩ ∧ g < w.heap.size ∧ w.cell? ⟨g, off + k, none⟩ = some (.int .i64 (xs.getD k 0)) := by
  rcases h with ⟨_, rfl⟩ | ⟨g, off, cap, hv, hg, hc⟩
  · simp at hk
  · cases hv
    exact ⟨g, off, rfl, hg, hc k hk⟩
def fit128 (x : Int) : Bool := decide (-170141183460469231731687303715884105728 ≤ x ∧ x ≤ 170141183460469231731687303715884105727)
theorem fit128_iff {x : Int} : fit128 x = true ↔ W128 x := decide_eq_true_iff
/-- The sum of the first k products, if each sum on the way fits. -/
def dotF (a b : List Int) : Nat → Option Int
  | 0 => some 0
  | k + 1 => (dotF a b k).bind fun s => bif fit128 (s + a.getD k 0 * b.getD k 0) then some (s + a.getD k 0 * b.getD k 0) else none
theorem dotF_w {a b : List Int} : ∀ {k : Nat} {s : Int}, dotF a b k = some s → W128 s := by
  intro k s h
  cases k with
  | zero => cases h; unfold W128; omega
  | succ k =>
    simp only [dotF] at h
    cases hd : dotF a b k with
    | none => rw [hd] at h; cases h
    | some t =>
      rw [hd] at h
      simp only [Option.bind_some] at h
      cases hf : fit128 (t + a.getD k 0 * b.getD k 0) with
      | false => rw [hf] at h; cases h
      | true => rw [hf] at h; cases h; exact fit128_iff.1 hf
theorem dotF_yes {a b : List Int} {k : Nat} {s : Int} (h : dotF a b k = some s) (hw : W128 (s + a.getD k 0 * b.getD k 0)) : dotF a b (k + 1) = some (s + a.getD k 0 * b.getD k 0) := by
  simp only [dotF, h, Option.bind_some, fit128_iff.2 hw, cond_true]
theorem dotF_no {a b : List Int} {k : Nat} {s : Int} (h : dotF a b k = some s) (hw : ¬ W128 (s + a.getD k 0 * b.getD k 0)) : dotF a b (k + 1) = none := by
  have : fit128 (s + a.getD k 0 * b.getD k 0) = false := by
    cases hf : fit128 (s + a.getD k 0 * b.getD k 0) with
    | false => rfl
    | true => exact absurd (fit128_iff.1 hf) hw
  simp only [dotF, h, Option.bind_some, this, cond_false]
theorem dotF_none {a b : List Int} {k : Nat} (h : dotF a b k = none) : ∀ {n : Nat}, k ≤ n → dotF a b n = none := by
  intro n hn
  induction n with
  | zero => obtain rfl : k = 0 := by omega
            exact h
  | succ n ih =>
    rcases Nat.lt_or_ge n k with h1 | h1
    · obtain rfl : k = n + 1 := by omega
      exact h
    · simp only [dotF, ih h1, Option.bind_none]
def dotV : Option Int → Value
  | some s => .tuple #[.agg #[.int .i64 (hi s), .int .u64 (lo s)], .bool true]
  | none => .tuple #[.agg #[.int .i64 0, .int .u64 0], .bool false]
set_option maxRecDepth 20000 in
set_option maxHeartbeats 4000000 in
theorem Dot_c (a b : List Int) (v1 v2 : Value) (w : World) (ha : ∀ x ∈ a, I64 x) (hb : ∀ x ∈ b, I64 x) (hl : a.length = b.length) (hn : a.length ≤ 1152921504606846976) (h1 : IntsAt w v1 a) (h2 : IntsAt w v2 b) :
    Calls Try.prog 31 #[v1, v2] w fun e w' => e = .returned (dotV (dotF a b a.length)) ∧ Ext w w' := by
  obtain ⟨p1, c1, rfl⟩ := h1.sl
  obtain ⟨p2, c2, rfl⟩ := h2.sl
  obtain ⟨n, hN⟩ : ∃ n, a.length = n := ⟨_, rfl⟩
  have HB : Hid (b.length = n) := Lib.hid (hl.symm.trans hN)
  have HN := Lib.hid hN
  have H1 := Lib.hid h1
  have H2 := Lib.hid h2
  rw [← hl]
  rw [hN] at hn ⊢
  clear hl hN h1 h2
  go_enter Try.func31, Try.ntmps31
  go_wp2_with fail
  go_loopw [19] (fun u wr => ∃ (k : Nat) (s : Int), k ≤ n ∧ u = .int .i64 k ∧ dotF a b k = some s ∧ Ext w wr ∧ wr.heap[w.heap.size + 1]? = some (.cells #[.int .i64 (hi s), .int .u64 (lo s)] 56 (0, 0)) ∧ wr.heap[w.heap.size]? = some (.cells #[.int .i64 0, .int .u64 0] 56 (0, 0))) (fun u _ => n - (intOf u).toNat)
  case atStart =>
    refine ⟨0, 0, Nat.zero_le _, rfl, rfl, (Ext.alloc' _ _).allocR _, heap_at _ _ (size_alloc _ _).symm, ?_⟩
    rw [heap_old _ _ (by rw [size_alloc]; exact Nat.lt_succ_self _)]
    exact heap_at _ _ rfl
  case round =>
    obtain ⟨k, s, hk, rfl, hs, hx, hg1, hg0⟩ := hrel
    have x0 := (cell_of hg1 0).trans rfl
    have x1 := (cell_of hg1 1).trans rfl
    have l1 := lt_of hg1
    by_cases hgo : k < n
    · obtain ⟨ga, oa, rfl, hga, d1⟩ := H1.out.one (k := k) (by rw [HN.out]; exact hgo)
      obtain ⟨gb, ob, rfl, hgb, d2⟩ := H2.out.one (k := k) (by rw [HB.out]; exact hgo)
      have e1 := ((bcell hx).1 ga _ hga).trans d1
      have e2 := ((bcell hx).1 gb _ hgb).trans d2
      have la : ga < wr.heap.size := Nat.lt_of_lt_of_le hga hx.size
      have lb : gb < wr.heap.size := Nat.lt_of_lt_of_le hgb hx.size
      have ia := ha _ (getD_mem (l := a) (k := k) (by rw [HN.out]; exact hgo))
      have ib := hb _ (getD_mem (l := b) (k := k) (by rw [HB.out]; exact hgo))
      have hyes := dotF_yes hs
      have hno := dotF_no hs
      have hsw := dotF_w hs
      generalize a.getD k 0 = x at *
      generalize b.getD k 0 = y at *
      have hpw := mul_w ia ib
      have HYES := Lib.hid hyes
      have HNO := Lib.hid hno
      have HG0 := Lib.hid hg0
      have HG1 := Lib.hid hg1
      clear hyes hno hs hg0 hg1 d1 d2 hga hgb
      obtain ⟨rh, rl, ok, hAdd, hok1, hok0⟩ : ∃ (rh rl : Int) (ok : Bool), (∀ w0 : World, Calls Try.prog 42 #[.agg #[.int .i64 (hi s), .int .u64 (lo s)], .agg #[.int .i64 (hi (x * y)), .int .u64 (lo (x * y))]] w0 fun e w' => e = .returned (.tuple #[.agg #[.int .i64 rh, .int .u64 rl], .bool ok]) ∧ Ext w0 w') ∧ (ok = true → W128 (s + x * y) ∧ rh = hi (s + x * y) ∧ rl = lo (s + x * y)) ∧ (ok = false → ¬ W128 (s + x * y)) := by
        by_cases hfit : W128 (s + x * y)
        · exact ⟨_, _, true, fun w0 => Add_yes s (x * y) hsw hpw hfit w0, (fun _ => ⟨hfit, rfl, rfl⟩), (fun h => by cases h)⟩
        · exact ⟨_, _, false, fun w0 => Add_no s (x * y) hsw hpw hfit w0, (fun h => by cases h), (fun _ => hfit)⟩
      have hAdd := Lib.hid hAdd
      have HOK1 := Lib.hid hok1
      have HOK0 := Lib.hid hok0
      clear hok1 hok0
      go_upto_region 7 with (fail)
      go_cut [9, 10] (fun s9 s10 wx => ∃ z : Nat, s9 = .pointer (some ⟨z, 0, none⟩) ∧ s10 = .bool ok ∧ wx.heap[z]? = some (.cells #[.int .i64 rh, .int .u64 rl] 56 (0, 0)) ∧ Ext wr wx ∧ wr.heap.size ≤ z)
      case first =>
        have hC0 := af_drew wr
        refine pi_start (fun w' => ∃ x : After wr, w' = x.w) [] (by kernel_rfl) ?_
        refine pi_t 1 rfl (by kernel_rfl) (by kernel_rfl) (fun _ _ _ _ h => h) (fun K hK => ?_)
        go_big_quiet_op
        refine hK _ ?_
        clear hK K
        refine pi_t 2 rfl (by kernel_rfl) (by kernel_rfl) (fun _ _ _ _ h => h) (fun K hK => ?_)
        go_big_quiet_op
        refine hK _ ?_
        clear hK K
        refine pi_t 3 rfl (by kernel_rfl) (by kernel_rfl) (fun _ _ _ _ h => h) (fun K hK => ?_)
        go_big_quiet_op
        refine hK _ ?_
        clear hK K
        refine pi_t 4 rfl (by kernel_rfl) (by kernel_rfl) (fun _ _ _ _ h => h) (fun K hK => ?_)
        go_big_quiet_op
        refine hK _ ?_
        clear hK K
        refine pi_c 0 (by assumption) rfl (by kernel_rfl) (by kernel_rfl) (fun _ _ _ _ h => h) (fun K hK => ?_)
        go_big_quiet_op
        refine hK _ ?_
        clear hK K
        refine pi_c 5 (by assumption) rfl (by kernel_rfl) (by kernel_rfl) (fun _ _ _ _ h => h) (fun K hK => ?_)
        go_big_quiet_op
        refine hK _ ?_
        clear hK K
        refine pi_b 6 11 rfl rfl (by kernel_rfl) (fun K hK => ?_) (fun K hK => ?_)
        · go_wp2_with (go_at_call 67; refine (Times_c x y ia ib _).mono ?_; rintro e wt ⟨rfl, hxt⟩)
          refine hK _ _ (fun _ h => af_step h hxt) ?_
          clear hK K
          have hEt : Ext wr wt := Ext.trans' (Below.drew (Ext.refl wr)) hxt
          refine pi_b 7 11 rfl rfl (by kernel_rfl) (fun K hK => ?_) (fun K hK => ?_)
          · go_wp2_with (go_at_call 42; refine (hAdd.out _).mono ?_; rintro e wa ⟨rfl, hxa⟩)
            refine hK _ _ (fun _ h => af_step h hxa) ?_
            clear hK K
            have hEa := hEt.trans' hxa
            refine pi_t 8 rfl (by kernel_rfl) (by kernel_rfl) (fun _ _ _ _ h => h) (fun K hK => ?_)
            go_big_quiet_op
            refine hK _ ?_
            clear hK K
            refine pi_t 9 rfl (by kernel_rfl) (by kernel_rfl) (fun _ _ _ _ h => h) (fun K hK => ?_)
            go_big_quiet_op
            refine hK _ ?_
            clear hK K
            refine pi_t 10 rfl (by kernel_rfl) (by kernel_rfl) (fun _ _ _ _ h => h) (fun K hK => ?_)
            go_big_quiet_op
            refine hK _ ?_
            clear hK K
            refine pi_l 11 rfl (by kernel_rfl) (fun K hK => ?_)
            go_wp2
            refine hK _ _ (fun _ h => af_step h (Ext.alloc' _ _)) ?_
            clear hK K
            refine pi_l 12 rfl (by kernel_rfl) (fun K hK => ?_)
            go_wp2
            have hsz := hEa.size
            refine hK _ _ (fun _ h => ⟨⟨_, hEa.allocR _⟩, rfl⟩) ?_
            clear hK K
            refine pi_t 13 rfl (by kernel_rfl) (by kernel_rfl) (fun _ _ _ _ h => h) (fun K hK => ?_)
            go_big_quiet_op
            refine hK _ ?_
            clear hK K
            refine pi_end (by kernel_rfl) ?_
            go_wp2_with fail
            go_meet
            exact ⟨_, rfl, rfl, heap_at _ _ rfl, hEa.allocR _, hsz⟩
          · go_wp2
            refine hK _ _ (fun _ h => af_step h (Ext.alloc' _ _)) ?_
            clear hK K
            refine pi_l 7 rfl (by kernel_rfl) (fun K hK => ?_)
            go_wp2_with (go_at_call 42; refine (hAdd.out _).mono ?_; rintro e wa ⟨rfl, hxa⟩)
            refine hK _ _ (fun _ h => af_step h hxa) ?_
            clear hK K
            have hEa := (hEt.allocR _).trans' hxa
            have hbx := hxa.keep (heap_at wt _ rfl)
            have hsz := hEt.size
            have p0 := (cell_of hbx 0).trans rfl
            have p1 := (cell_of hbx 1).trans rfl
            have f0 := frozen_of hbx 0
            have f1 := frozen_of hbx 1
            have HBX := Lib.hid hbx
            clear hbx
            refine pi_t 8 rfl (by kernel_rfl) (by kernel_rfl) (fun _ _ _ _ h => h) (fun K hK => ?_)
            go_big_quiet_op
            refine hK _ ?_
            clear hK K
            refine pi_t 9 rfl (by kernel_rfl) (by kernel_rfl) (fun _ _ _ _ h => h) (fun K hK => ?_)
            go_big_quiet_op
            refine hK _ ?_
            clear hK K
            refine pi_t 10 rfl (by kernel_rfl) (by kernel_rfl) (fun _ _ _ _ h => h) (fun K hK => ?_)
            go_big_quiet_op
            refine hK _ ?_
            clear hK K
            refine pi_l 12 rfl (by kernel_rfl) (fun K hK => ?_)
            go_wp2
            refine hK _ _ (fun _ h => ⟨⟨_, (hEa.setR hsz _).setR hsz _⟩, rfl⟩) ?_
            clear hK K
            refine pi_t 13 rfl (by kernel_rfl) (by kernel_rfl) (fun _ _ _ _ h => h) (fun K hK => ?_)
            go_big_quiet_op
            refine hK _ ?_
            clear hK K
            refine pi_end (by kernel_rfl) ?_
            go_wp2_with fail
            go_meet
            exact ⟨_, rfl, rfl, set2 HBX.out _ _, (hEa.setR hsz _).setR hsz _, hsz⟩
        · go_wp2
          refine hK _ _ (fun _ h => af_step h (Ext.alloc' _ _)) ?_
          clear hK K
          refine pi_l 6 rfl (by kernel_rfl) (fun K hK => ?_)
          go_wp2_with (go_at_call 67; refine (Times_c x y ia ib _).mono ?_; rintro e wt ⟨rfl, hxt⟩)
          refine hK _ _ (fun _ h => af_step h hxt) ?_
          clear hK K
          refine pi_l 7 rfl (by kernel_rfl) (fun K hK => ?_)
          go_wp2_with (go_at_call 42; refine (hAdd.out _).mono ?_; rintro e wa ⟨rfl, hxa⟩)
          refine hK _ _ (fun _ h => af_step h hxa) ?_
          clear hK K
          have hEa : Ext wr wa := Ext.trans' (Ext.trans' (Ext.alloc' wr _) (Ext.trans' (Below.drew (Ext.refl _)) hxt)) hxa
          have hbx : wa.heap[wr.heap.size]? = some (.cells #[.int .i64 0, .int .u64 0] 56 (0, 0)) := hxa.keep (hxt.keep (heap_at wr.drew _ rfl))
          have p0 := (cell_of hbx 0).trans rfl
          have p1 := (cell_of hbx 1).trans rfl
          have f0 := frozen_of hbx 0
          have f1 := frozen_of hbx 1
          have HBX := Lib.hid hbx
          clear hbx
          refine pi_t 8 rfl (by kernel_rfl) (by kernel_rfl) (fun _ _ _ _ h => h) (fun K hK => ?_)
          go_big_quiet_op
          refine hK _ ?_
          clear hK K
          refine pi_t 9 rfl (by kernel_rfl) (by kernel_rfl) (fun _ _ _ _ h => h) (fun K hK => ?_)
          go_big_quiet_op
          refine hK _ ?_
          clear hK K
          refine pi_t 10 rfl (by kernel_rfl) (by kernel_rfl) (fun _ _ _ _ h => h) (fun K hK => ?_)
          go_big_quiet_op
          refine hK _ ?_
          clear hK K
          refine pi_l 12 rfl (by kernel_rfl) (fun K hK => ?_)
          go_wp2
          refine hK _ _ (fun _ h => ⟨⟨_, (hEa.setR (p := ⟨wr.heap.size, 0, none⟩) (Nat.le_refl _) _).setR (p := ⟨wr.heap.size, 1, none⟩) (Nat.le_refl _) _⟩, rfl⟩) ?_
          clear hK K
          refine pi_t 13 rfl (by kernel_rfl) (by kernel_rfl) (fun _ _ _ _ h => h) (fun K hK => ?_)
          go_big_quiet_op
          refine hK _ ?_
          clear hK K
          refine pi_end (by kernel_rfl) ?_
          go_wp2_with fail
          go_meet
          exact ⟨_, rfl, rfl, set2 HBX.out _ _, (hEa.setR (p := ⟨wr.heap.size, 0, none⟩) (Nat.le_refl _) _).setR (p := ⟨wr.heap.size, 1, none⟩) (Nat.le_refl _) _, Nat.le_refl _⟩
      case rest =>
        obtain ⟨z, rfl, rfl, hz, hEc, hzz⟩ := hcut
        have hE := hx.trans' hEc
        have y0 := (cell_of hz 0).trans rfl
        have y1 := (cell_of hz 1).trans rfl
        have zl := lt_of hz
        have hg0 := hEc.keep HG0.out
        have hg1 := hEc.keep HG1.out
        cases ok
        · have hnn := HNO.out (HOK0.out rfl)
          have hnil := dotF_none hnn (n := n) (by omega)
          have a0 := (cell_of hg0 0).trans rfl
          have a1 := (cell_of hg0 1).trans rfl
          have f0 := frozen_of hg0 0
          have f1 := frozen_of hg0 1
          have HG0' := Lib.hid hg0
          have HNIL := Lib.hid hnil
          clear hg0 hg1 hnn hnil
          go_wp2_with fail
          refine bodyPost_ret (v := .tuple #[.agg #[.int .i64 0, .int .u64 0], .bool false]) (by simp [results, Try.results31, go_sem, set2_0, set2_1, *]) rfl ⟨by rw [HNIL.out]; rfl, ?_⟩
          exact (hE.setR (Nat.le_refl _) _).setR (Nat.le_refl _) _
        · obtain ⟨hfit, rfl, rfl⟩ := HOK1.out rfl
          have hss := HYES.out hfit
          have a0 := (cell_of hg1 0).trans rfl
          have a1 := (cell_of hg1 1).trans rfl
          have f0 := frozen_of hg1 0
          have f1 := frozen_of hg1 1
          have HG0' := Lib.hid hg0
          have HG1' := Lib.hid hg1
          have HSS := Lib.hid hss
          clear hg0 hg1 hss x0 x1
          go_wp2_with fail
          go_roundw
          case rel =>
            refine ⟨k + 1, s + x * y, by omega, by go_num, HSS.out, (hE.setR (Nat.le_succ _) _).setR (Nat.le_succ _) _, set2 HG1'.out _ _, ?_⟩
            rw [setCell_other _ _ (by omega), setCell_other _ _ (by omega)]
            exact HG0'.out
          case measure => simp [intOf]; omega
    · obtain rfl : k = n := by omega
      have HSS := Lib.hid hs
      have a0 := (cell_of hg0 0).trans rfl
      have a1 := (cell_of hg0 1).trans rfl
      have f0 := frozen_of hg0 0
      have f1 := frozen_of hg0 1
      have HG0 := Lib.hid hg0
      clear hg0 hg1 hs
      go_wp2_with fail
      refine bodyPost_ret (v := .tuple #[.agg #[.int .i64 (hi s), .int .u64 (lo s)], .bool true]) (by simp [results, Try.results31, go_sem, *]) rfl ⟨by rw [HSS.out]; rfl, ?_⟩
      exact (hx.setR (Nat.le_refl _) _).setR (Nat.le_refl _) _
end Go.Proofs.Ythancaehlijaoaa
