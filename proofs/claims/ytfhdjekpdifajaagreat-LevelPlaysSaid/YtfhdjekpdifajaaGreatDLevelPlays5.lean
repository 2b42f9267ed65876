/- Part. No condition. -/
import Derived.Test.YtfhdjekpdifajaaGreatDLevelPlays1
import Derived.Test.YtfhdjekpdifajaaGreatDLevelPlays2
import Derived.Test.YtfhdjekpdifajaaGreatDLevelPlays3
import Derived.Test.YtfhdjekpdifajaaGreatDLevelPlays4
namespace Go.Proofs.YtfhdjekpdifajaaGreat
set_option linter.unusedVariables false
open Go.RowKit
theorem IntsAt.sl {w : World} {v : Value} {xs : List Int} (h : IntsAt w v xs) : ∃ p c, v = .slice p xs.length c := by
  rcases h with ⟨rfl, rfl⟩ | ⟨g, off, cap, rfl, _⟩
  · exact ⟨none, 0, rfl⟩
  · exact ⟨_, _, rfl⟩
theorem IntsAt.one {w : World} {p : Option Addr} {n c : Nat} {xs : List Int} (h : IntsAt w (.slice p n c) xs) {k : Nat} (hk : k < xs.length) :
    ∃ g off, p = some ⟨g, off, none⟩ ∧ g < w.heap.size ∧ w.cell? ⟨g, off + k, none⟩ = some (.int .i64 (xs.getD k 0)) := by
  rcases h with ⟨_, rfl⟩ | ⟨g, off, cap, hv, hg, hc⟩
  · simp at hk
  · cases hv
    exact ⟨g, off, rfl, hg, hc k hk⟩
def fit128 (x : Int) : Bool := decide (-170141183460469231731687303715884105728 ≤ x ∧ x ≤ 170141183460469231731687303715884105727)
theorem fit128_iff {x : Int} : fit128 x = true ↔ W128 x := decide_eq_true_iff
/-- The sum of the first k products, if each sum on the way fits. -/
def dotF (a b : List Int) : Nat → Option Int
  | 0 => some 0
  | k + 1 => (dotF a b k).bind fun s => bif fit128 (s + a.getD k 0 * b.getD k 0) then some (s + a.getD k 0 * b.getD k 0) else none
theorem dotF_w {a b : List Int} : ∀ {k : Nat} {s : Int}, dotF a b k = some s → W128 s := by
  intro k s h
  cases k with
  | zero => cases h; unfold W128; omega
  | succ k =>
    simp only [dotF] at h
    cases hd : dotF a b k with
    | none => rw [hd] at h; cases h
    | some t =>
      rw [hd] at h
      simp only [Option.bind_some] at h
      cases hf : fit128 (t + a.getD k 0 * b.getD k 0) with
      | false => rw [hf] at h; cases h
      | true => rw [hf] at h; cases h; exact fit128_iff.1 hf
theorem dotF_yes {a b : List Int} {k : Nat} {s : Int} (h : dotF a b k = some s) (hw : W128 (s + a.getD k 0 * b.getD k 0)) : dotF a b (k + 1) = some (s + a.getD k 0 * b.getD k 0) := by
  simp only [dotF, h, Option.bind_some, fit128_iff.2 hw, cond_true]
theorem dotF_no {a b : List Int} {k : Nat} {s : Int} (h : dotF a b k = some s) (hw : ¬ W128 (s + a.getD k 0 * b.getD k 0)) : dotF a b (k + 1) = none := by
  have : fit128 (s + a.getD k 0 * b.getD k 0) = false := by
    cases hf : fit128 (s + a.getD k 0 * b.getD k 0) with
    | false => rfl
    | true => exact absurd (fit128_iff.1 hf) hw
  simp only [dotF, h, Option.bind_some, this, cond_false]
theorem dotF_none {a b : List Int} {k : Nat} (h : dotF a b k = none) : ∀ {n : Nat}, k ≤ n → dotF a b n = none := by
  intro n hn
  induction n with
  | zero => obtain rfl : k = 0 := by omega
            exact h
  | succ n ih =>
    rcases Nat.lt_or_ge n k with h1 | h1
    · obtain rfl : k = n + 1 := by omega
      exact h
    · simp only [dotF, ih h1, Option.bind_none]
def dotV : Option Int → Value
  | some s => .tuple #[.agg #[.int .i64 (hi s), .int .u64 (lo s)], .bool true]
  | none => .tuple #[.agg #[.int .i64 0, .int .u64 0], .bool false]
set_option maxRecDepth 20000 in
set_option maxHeartbeats 4000000 in
theorem Dot_c (a b : List Int) (v1 v2 : Value) (w : World) (ha : ∀ x ∈ a, I64 x) (hb : ∀ x ∈ b, I64 x) (hl : a.length = b.length) (hn : a.length ≤ 1152921504606846976) (h1 : IntsAt w v1 a) (h2 : IntsAt w v2 b) :
    Calls Tryz.prog 122 #[v1, v2] w fun e w' => e = .returned (dotV (dotF a b a.length)) ∧ Ext w w' := by
  obtain ⟨p1, c1, rfl⟩ := h1.sl
  obtain ⟨p2, c2, rfl⟩ := h2.sl
  obtain ⟨n, hN⟩ : ∃ n, a.length = n := ⟨_, rfl⟩
  have HB : Hid (b.length = n) := Lib.hid (hl.symm.trans hN)
  have HN := Lib.hid hN
  have H1 := Lib.hid h1
  have H2 := Lib.hid h2
  rw [← hl]
  rw [hN] at hn ⊢
  clear hl hN h1 h2
  go_enter Tryz.func122, Tryz.ntmps122
  go_wp2_with fail
  go_loopw [19] (fun u wr => ∃ (k : Nat) (s : Int), k ≤ n ∧ u = .int .i64 k ∧ dotF a b k = some s ∧ Ext w wr ∧ wr.heap[w.heap.size + 1]? = some (.cells #[.int .i64 (hi s), .int .u64 (lo s)] 75 (0, 0)) ∧ wr.heap[w.heap.size]? = some (.cells #[.int .i64 0, .int .u64 0] 75 (0, 0))) (fun u _ => n - (intOf u).toNat)
  case atStart =>
    refine ⟨0, 0, Nat.zero_le _, rfl, rfl, (Ext.alloc' _ _).allocR _, heap_at _ _ (size_alloc _ _).symm, ?_⟩
    rw [heap_old _ _ (by rw [size_alloc]; exact Nat.lt_succ_self _)]
    exact heap_at _ _ rfl
  case round =>
    obtain ⟨k, s, hk, rfl, hs, hx, hg1, hg0⟩ := hrel
    have x0 := (cell_of hg1 0).trans rfl
    have x1 := (cell_of hg1 1).trans rfl
    have l1 := lt_of hg1
    by_cases hgo : k < n
    · obtain ⟨ga, oa, rfl, hga, d1⟩ := H1.out.one (k := k) (by rw [HN.out]; exact hgo)
      obtain ⟨gb, ob, rfl, hgb, d2⟩ := H2.out.one (k := k) (by rw [HB.out]; exact hgo)
      have e1 := ((bcell hx).1 ga _ hga).trans d1
      have e2 := ((bcell hx).1 gb _ hgb).trans d2
      have la : ga < wr.heap.size := Nat.lt_of_lt_of_le hga hx.size
      have lb : gb < wr.heap.size := Nat.lt_of_lt_of_le hgb hx.size
      have ia := ha _ (getD_mem (l := a) (k := k) (by rw [HN.out]; exact hgo))
      have ib := hb _ (getD_mem (l := b) (k := k) (by rw [HB.out]; exact hgo))
      have hyes := dotF_yes hs
      have hno := dotF_no hs
      have hsw := dotF_w hs
      generalize a.getD k 0 = x at *
      generalize b.getD k 0 = y at *
      have hpw := mul_w ia ib
      have HYES := Lib.hid hyes
      have HNO := Lib.hid hno
      have HG0 := Lib.hid hg0
      have HG1 := Lib.hid hg1
      clear hyes hno hs hg0 hg1 d1 d2 hga hgb
      obtain ⟨rh, rl, ok, hAdd, hok1, hok0⟩ : ∃ (rh rl : Int) (ok : Bool), (∀ w0 : World, Calls Tryz.prog 172 #[.agg #[.int .i64 (hi s), .int .u64 (lo s)], .agg #[.int .i64 (hi (x * y)), .int .u64 (lo (x * y))]] w0 fun e w' => e = .returned (.tuple #[.agg #[.int .i64 rh, .int .u64 rl], .bool ok]) ∧ Ext w0 w') ∧ (ok = true → W128 (s + x * y) ∧ rh = hi (s + x * y) ∧ rl = lo (s + x * y)) ∧ (ok = false → ¬ W128 (s + x * y)) := by
        by_cases hfit : W128 (s + x * y)
        · exact ⟨_, _, true, fun w0 => Add_yes s (x * y) hsw hpw hfit w0, (fun _ => ⟨hfit, rfl, rfl⟩), (fun h => by cases h)⟩
        · exact ⟨_, _, false, fun w0 => Add_no s (x * y) hsw hpw hfit w0, (fun h => by cases h), (fun _ => hfit)⟩
      have hAdd := Lib.hid hAdd
      have HOK1 := Lib.hid hok1
      have HOK0 := Lib.hid hok0
      clear hok1 hok0
      go_upto_region 7 with (fail)
      go_cut [9, 10] (fun s9 s10 wx => ∃ z : Nat, s9 = .pointer (some ⟨z, 0, none⟩) ∧ s10 = .bool ok ∧ wx.heap[z]? = some (.cells #[.int .i64 rh, .int .u64 rl] 75 (0, 0)) ∧ Ext wr wx ∧ wr.heap.size ≤ z)
      case first =>
        have hC0 := af_drew wr
        refine pi_start (fun w' => ∃ x : After wr, w' = x.w) [] (by kernel_rfl) ?_
        refine pi_t 1 rfl (by kernel_rfl) (by kernel_rfl) (fun _ _ _ _ h => h) (fun K hK => ?_)
        go_big_quiet_op
        refine hK _ ?_
        clear hK K
        refine pi_t 2 rfl (by kernel_rfl) (by kernel_rfl) (fun _ _ _ _ h => h) (fun K hK => ?_)
        go_big_quiet_op
        refine hK _ ?_
        clear hK K
        refine pi_t 3 rfl (by kernel_rfl) (by kernel_rfl) (fun _ _ _ _ h => h) (fun K hK => ?_)
        go_big_quiet_op
        refine hK _ ?_
        clear hK K
        refine pi_t 4 rfl (by kernel_rfl) (by kernel_rfl) (fun _ _ _ _ h => h) (fun K hK => ?_)
        go_big_quiet_op
        refine hK _ ?_
        clear hK K
        refine pi_c 0 (by assumption) rfl (by kernel_rfl) (by kernel_rfl) (fun _ _ _ _ h => h) (fun K hK => ?_)
        go_big_quiet_op
        refine hK _ ?_
        clear hK K
        refine pi_c 5 (by assumption) rfl (by kernel_rfl) (by kernel_rfl) (fun _ _ _ _ h => h) (fun K hK => ?_)
        go_big_quiet_op
        refine hK _ ?_
        clear hK K
        refine pi_b 6 11 rfl rfl (by kernel_rfl) (fun K hK => ?_) (fun K hK => ?_)
        · go_wp2_with (go_at_call 173; refine (Times_c x y ia ib _).mono ?_; rintro e wt ⟨rfl, hxt⟩)
          refine hK _ _ (fun _ h => af_step h hxt) ?_
          clear hK K
          have hEt : Ext wr wt := Ext.trans' (Below.drew (Ext.refl wr)) hxt
          refine pi_b 7 11 rfl rfl (by kernel_rfl) (fun K hK => ?_) (fun K hK => ?_)
          · go_wp2_with (go_at_call 172; refine (hAdd.out _).mono ?_; rintro e wa ⟨rfl, hxa⟩)
            refine hK _ _ (fun _ h => af_step h hxa) ?_
            clear hK K
            have hEa := hEt.trans' hxa
            refine pi_t 8 rfl (by kernel_rfl) (by kernel_rfl) (fun _ _ _ _ h => h) (fun K hK => ?_)
            go_big_quiet_op
            refine hK _ ?_
            clear hK K
            refine pi_t 9 rfl (by kernel_rfl) (by kernel_rfl) (fun _ _ _ _ h => h) (fun K hK => ?_)
            go_big_quiet_op
            refine hK _ ?_
            clear hK K
            refine pi_t 10 rfl (by kernel_rfl) (by kernel_rfl) (fun _ _ _ _ h => h) (fun K hK => ?_)
            go_big_quiet_op
            refine hK _ ?_
            clear hK K
            refine pi_l 11 rfl (by kernel_rfl) (fun K hK => ?_)
            go_wp2
            refine hK _ _ (fun _ h => af_step h (Ext.alloc' _ _)) ?_
            clear hK K
            refine pi_l 12 rfl (by kernel_rfl) (fun K hK => ?_)
            go_wp2
            have hsz := hEa.size
            refine hK _ _ (fun _ h => ⟨⟨_, hEa.allocR _⟩, rfl⟩) ?_
            clear hK K
            refine pi_t 13 rfl (by kernel_rfl) (by kernel_rfl) (fun _ _ _ _ h => h) (fun K hK => ?_)
            go_big_quiet_op
            refine hK _ ?_
            clear hK K
            refine pi_end (by kernel_rfl) ?_
            go_wp2_with fail
            go_meet
            exact ⟨_, rfl, rfl, heap_at _ _ rfl, hEa.allocR _, hsz⟩
          · go_wp2
            refine hK _ _ (fun _ h => af_step h (Ext.alloc' _ _)) ?_
            clear hK K
            refine pi_l 7 rfl (by kernel_rfl) (fun K hK => ?_)
            go_wp2_with (go_at_call 172; refine (hAdd.out _).mono ?_; rintro e wa ⟨rfl, hxa⟩)
            refine hK _ _ (fun _ h => af_step h hxa) ?_
            clear hK K
            have hEa := (hEt.allocR _).trans' hxa
            have hbx := hxa.keep (heap_at wt _ rfl)
            have hsz := hEt.size
            have p0 := (cell_of hbx 0).trans rfl
            have p1 := (cell_of hbx 1).trans rfl
            have f0 := frozen_of hbx 0
            have f1 := frozen_of hbx 1
            have HBX := Lib.hid hbx
            clear hbx
            refine pi_t 8 rfl (by kernel_rfl) (by kernel_rfl) (fun _ _ _ _ h => h) (fun K hK => ?_)
            go_big_quiet_op
            refine hK _ ?_
            clear hK K
            refine pi_t 9 rfl (by kernel_rfl) (by kernel_rfl) (fun _ _ _ _ h => h) (fun K hK => ?_)
            go_big_quiet_op
            refine hK _ ?_
            clear hK K
            refine pi_t 10 rfl (by kernel_rfl) (by kernel_rfl) (fun _ _ _ _ h => h) (fun K hK => ?_)
            go_big_quiet_op
            refine hK _ ?_
            clear hK K
            refine pi_l 12 rfl (by kernel_rfl) (fun K hK => ?_)
            go_wp2
            refine hK _ _ (fun _ h => ⟨⟨_, (hEa.setR hsz _).setR hsz _⟩, rfl⟩) ?_
            clear hK K
            refine pi_t 13 rfl (by kernel_rfl) (by kernel_rfl) (fun _ _ _ _ h => h) (fun K hK => ?_)
            go_big_quiet_op
            refine hK _ ?_
            clear hK K
            refine pi_end (by kernel_rfl) ?_
            go_wp2_with fail
            go_meet
            exact ⟨_, rfl, rfl, set2 HBX.out _ _, (hEa.setR hsz _).setR hsz _, hsz⟩
        · go_wp2
          refine hK _ _ (fun _ h => af_step h (Ext.alloc' _ _)) ?_
          clear hK K
          refine pi_l 6 rfl (by kernel_rfl) (fun K hK => ?_)
          go_wp2_with (go_at_call 173; refine (Times_c x y ia ib _).mono ?_; rintro e wt ⟨rfl, hxt⟩)
          refine hK _ _ (fun _ h => af_step h hxt) ?_
          clear hK K
          refine pi_l 7 rfl (by kernel_rfl) (fun K hK => ?_)
          go_wp2_with (go_at_call 172; refine (hAdd.out _).mono ?_; rintro e wa ⟨rfl, hxa⟩)
          refine hK _ _ (fun _ h => af_step h hxa) ?_
          clear hK K
          have hEa : Ext wr wa := Ext.trans' (Ext.trans' (Ext.alloc' wr _) (Ext.trans' (Below.drew (Ext.refl _)) hxt)) hxa
          have hbx : wa.heap[wr.heap.size]? = some (.cells #[.int .i64 0, .int .u64 0] 75 (0, 0)) := hxa.keep (hxt.keep (heap_at wr.drew _ rfl))
          have p0 := (cell_of hbx 0).trans rfl
          have p1 := (cell_of hbx 1).trans rfl
          have f0 := frozen_of hbx 0
          have f1 := frozen_of hbx 1
          have HBX := Lib.hid hbx
          clear hbx
          refine pi_t 8 rfl (by kernel_rfl) (by kernel_rfl) (fun _ _ _ _ h => h) (fun K hK => ?_)
          go_big_quiet_op
          refine hK _ ?_
          clear hK K
          refine pi_t 9 rfl (by kernel_rfl) (by kernel_rfl) (fun _ _ _ _ h => h) (fun K hK => ?_)
          go_big_quiet_op
          refine hK _ ?_
          clear hK K
          refine pi_t 10 rfl (by kernel_rfl) (by kernel_rfl) (fun _ _ _ _ h => h) (fun K hK => ?_)
          go_big_quiet_op
          refine hK _ ?_
          clear hK K
          refine pi_l 12 rfl (by kernel_rfl) (fun K hK => ?_)
          go_wp2
          refine hK _ _ (fun _ h => ⟨⟨_, (hEa.setR (p := ⟨wr.heap.size, 0, none⟩) (Nat.le_refl _) _).setR (p := ⟨wr.heap.size, 1, none⟩) (Nat.le_refl _) _⟩, rfl⟩) ?_
          clear hK K
          refine pi_t 13 rfl (by kernel_rfl) (by kernel_rfl) (fun _ _ _ _ h => h) (fun K hK => ?_)
          go_big_quiet_op
          refine hK _ ?_
          clear hK K
          refine pi_end (by kernel_rfl) ?_
          go_wp2_with fail
          go_meet
          exact ⟨_, rfl, rfl, set2 HBX.out _ _, (hEa.setR (p := ⟨wr.heap.size, 0, none⟩) (Nat.le_refl _) _).setR (p := ⟨wr.heap.size, 1, none⟩) (Nat.le_refl _) _, Nat.le_refl _⟩
      case rest =>
        obtain ⟨z, rfl, rfl, hz, hEc, hzz⟩ := hcut
        have hE := hx.trans' hEc
        have y0 := (cell_of hz 0).trans rfl
        have y1 := (cell_of hz 1).trans rfl
        have zl := lt_of hz
        have hg0 := hEc.keep HG0.out
        have hg1 := hEc.keep HG1.out
        cases ok
        · have hnn := HNO.out (HOK0.out rfl)
          have hnil := dotF_none hnn (n := n) (by omega)
          have a0 := (cell_of hg0 0).trans rfl
          have a1 := (cell_of hg0 1).trans rfl
          have f0 := frozen_of hg0 0
          have f1 := frozen_of hg0 1
          have HG0' := Lib.hid hg0
          have HNIL := Lib.hid hnil
          clear hg0 hg1 hnn hnil
          go_wp2_with fail
          refine bodyPost_ret (v := .tuple #[.agg #[.int .i64 0, .int .u64 0], .bool false]) (by simp [results, Tryz.results122, go_sem, *]) rfl ⟨by rw [HNIL.out]; rfl, ?_⟩
          exact (hE.setR (Nat.le_refl _) _).setR (Nat.le_refl _) _
        · obtain ⟨hfit, rfl, rfl⟩ := HOK1.out rfl
          have hss := HYES.out hfit
          have a0 := (cell_of hg1 0).trans rfl
          have a1 := (cell_of hg1 1).trans rfl
          have f0 := frozen_of hg1 0
          have f1 := frozen_of hg1 1
          have HG0' := Lib.hid hg0
          have HG1' := Lib.hid hg1
          have HSS := Lib.hid hss
          clear hg0 hg1 hss x0 x1
          go_wp2_with fail
          go_roundw
          case rel =>
            refine ⟨k + 1, s + x * y, by omega, by go_num, HSS.out, (hE.setR (Nat.le_succ _) _).setR (Nat.le_succ _) _, set2 HG1'.out _ _, ?_⟩
            rw [setCell_other _ _ (by omega), setCell_other _ _ (by omega)]
            exact HG0'.out
          case measure => simp [intOf]; omega
    · obtain rfl : k = n := by omega
      have HSS := Lib.hid hs
      have a0 := (cell_of hg0 0).trans rfl
      have a1 := (cell_of hg0 1).trans rfl
      have f0 := frozen_of hg0 0
      have f1 := frozen_of hg0 1
      have HG0 := Lib.hid hg0
      clear hg0 hg1 hs
      go_wp2_with fail
      refine bodyPost_ret (v := .tuple #[.agg #[.int .i64 (hi s), .int .u64 (lo s)], .bool true]) (by simp [results, Tryz.results122, go_sem, *]) rfl ⟨by rw [HSS.out]; rfl, ?_⟩
      exact (hx.setR (Nat.le_refl _) _).setR (Nat.le_refl _) _
end Go.Proofs.YtfhdjekpdifajaaGreat
namespace Go.Proofs.YtfhdjekpdifajaaGreat
set_option linter.unusedVariables false
open Go.RowKit
set_option maxRecDepth 20000 in
set_option maxHeartbeats 4000000 in
theorem RMeet_c (G : Gr) (R W : Nat) (l cs : List Int) (v : Value) (w : World) (h : RGAt w G R W l) (hv : IntsAt w v cs) (hm : Meets R W cs) :
    Calls Tryz.prog 197 #[.pointer (some ⟨G.g, 0, none⟩), v] w fun e w' => e = .returned (.bool true) ∧ Ext w w' := by
  have r1 := h.r1
  have r2 := h.r2
  obtain ⟨vg, vo, vc, rfl, hg, hc⟩ := hv.slice (by rw [hm.len]; omega)
  rw [hm.len] at hc ⊢
  have HC := Lib.hid hc
  have HH := Lib.hid h
  have HM := Lib.hid hm
  obtain ⟨cap, cg, hcap⟩ := h.cg
  have lg := h.ltg
  have hz : ((R : Int) == 0) = false := by simp; omega
  clear hc hv h hm
  go_enter Tryz.func197, Tryz.ntmps197
  go_wp2_with fail
  clear cg lg hz
  go_loopw [5] (fun u wr => ∃ k : Nat, k ≤ R ∧ u = .int .i64 k ∧ Ext w wr) (fun u _ => R - (intOf u).toNat)
  case atStart => exact ⟨0, Nat.zero_le _, rfl, by (repeat' (first | exact Ext.refl _ | assumption | apply Ext.allocR | apply Ext.drewR | apply Ext.drewNR | (refine Ext.trans' ?_ (by assumption))))⟩
  case round =>
    obtain ⟨k, hk, rfl, hE⟩ := hrel
    by_cases hlt : k < R
    · have hr := HH.out.ext hE
      obtain ⟨cap2, cg, hcap2⟩ := hr.cg
      have lg := hr.ltg
      have cm := hr.cm hlt
      have lm := hr.ltm
      have d := ((bcell hE).1 _ _ hg).trans (HC.out k hlt)
      have ld : vg < wr.heap.size := Nat.lt_of_lt_of_le hg hE.size
      have l1 := HM.out.lo k hlt
      have l2 := HM.out.hi k hlt
      generalize cs.getD k 0 = y at *
      have g2 : decide (y < 0) = false := by simp; omega
      have g3 : decide ((W : Int) ≤ y) = false := by simp; omega
      clear hr
      go_wp2_with fail
      go_region
      go_wp2_with fail
      go_roundw
      case rel => exact ⟨k + 1, by omega, by go_num, by first | exact hE | exact hE.drewR⟩
      case measure => simp [intOf]; omega
    · go_wp2
      go_ret
      exact ⟨rfl, hE⟩
theorem readL_snoc {W : Nat} {l cs : List Int} {k : Nat} (hk : k < cs.length) : (readL W l cs).take (k + 1) = (readL W l cs).take k ++ [l.getD (k * W + (cs.getD k 0).toNat) 0] := by
  rw [take_snoc (by rw [readL_len]; exact hk), readL_get hk]; rfl
set_option maxRecDepth 20000 in
set_option maxHeartbeats 4000000 in
theorem RRead_c (G : Gr) (R W : Nat) (l cs : List Int) (v : Value) (w : World) (h : RGAt w G R W l) (hv : IntsAt w v cs) (hm : Meets R W cs) :
    Calls Tryz.prog 194 #[.pointer (some ⟨G.g, 0, none⟩), v] w (ReadPost w W l cs) := by
  have r1 := h.r1
  have r2 := h.r2
  have hml := hm.len
  obtain ⟨vg, vo, vc, rfl, hg, hc⟩ := hv.slice (by rw [hm.len]; omega)
  rw [hml] at hc hv ⊢
  have HL := Lib.hid hml
  have HC := Lib.hid hc
  have HV := Lib.hid hv
  have HH := Lib.hid h
  have HM := Lib.hid hm
  clear hc hv h hm hml
  go_enter Tryz.func194, Tryz.ntmps194
  go_wp2_with fail
  refine Calls.mono (RMeet_c G R W l cs _ _ (HH.out.ext (Ext.alloc' _ _)) (HV.out.ext (Ext.alloc' _ _)) HM.out) ?_
  rintro e w1 ⟨rfl, hx1⟩
  have hE1 : Ext w w1 := (Ext.alloc' _ _).trans' hx1
  have hown : w1.ownsRow w.heap.size 2 1 (.slice (some ⟨w.heap.size, 0, none⟩) 0 0) ((readL W l cs).take 0).length (ints ((readL W l cs).take 0)) := own_ext (own_empty w 2) hx1
  clear hx1
  go_wp2_with fail
  go_loopw [6, 7] (fun u6 u7 wr => ∃ k : Nat, k ≤ R ∧ u7 = .int .i64 k ∧ wr.ownsRow w.heap.size 2 1 u6 ((readL W l cs).take k).length (ints ((readL W l cs).take k)) ∧ Ext w wr) (fun _ u7 _ => R - (intOf u7).toNat)
  case atStart => exact ⟨0, Nat.zero_le _, rfl, hown, hE1⟩
  case round =>
    clear hown
    obtain ⟨k, hk, rfl, hown, hE⟩ := hrel
    by_cases hlt : k < R
    · have hr := HH.out.ext hE
      obtain ⟨cap2, cg, hcap2⟩ := hr.cg
      have lg := hr.ltg
      have cm := hr.cm hlt
      have lm := hr.ltm
      have d := ((bcell hE).1 _ _ hg).trans (HC.out k hlt)
      have ld : vg < wr.heap.size := Nat.lt_of_lt_of_le hg hE.size
      have l1 := HM.out.lo k hlt
      have l2 := HM.out.hi k hlt
      have hsn := readL_snoc (W := W) (l := l) (cs := cs) (k := k) (by rw [HL.out]; exact hlt)
      have HSN := Lib.hid hsn
      clear hsn
      generalize cs.getD k 0 = y at *
      obtain ⟨y, rfl⟩ := Int.eq_ofNat_of_zero_le l1
      have cr := hr.cr hlt (k := y) (by omega)
      have lr := hr.ltr hlt
      have HSN2 : Hid ((readL W l cs).take (k + 1) = (readL W l cs).take k ++ [l.getD (k * W + y) 0]) := Lib.hid HSN.out
      generalize l.getD (k * W + y) 0 = x at *
      have hl8 : ((readL W l cs).take k).length ≤ 8 := by rw [List.length_take, readL_len, HL.out]; omega
      generalize (readL W l cs).take k = pre at *
      have hy2 : y < W := by omega
      have hsE := hE.size
      obtain ⟨S, hSS⟩ : ∃ S : Nat → Prop, ∀ i, S i ↔ u6.ownBlock = some i := ⟨_, fun _ => Iff.rfl⟩
      have n1 : ¬ S G.g := fun h => by have := own_blk hown ((hSS _).1 h); have := HH.out.ltg; omega
      have n2 : ¬ S G.m := fun h => by have := own_blk hown ((hSS _).1 h); have := HH.out.ltm; omega
      have n3 : ¬ S (G.r k) := fun h => by have := own_blk hown ((hSS _).1 h); have := HH.out.ltr hlt; omega
      have n4 : ¬ S vg := fun h => by have := own_blk hown ((hSS _).1 h); omega
      have HSS := Lib.hid hSS
      clear hr HSN l1 l2 hSS
      go_wp2_with fail
      have hC0 := afs_drew S wr
      refine pi_start (fun w' => ∃ z : AftS S wr, w' = z.w) [] (by kernel_rfl) ?_
      refine pi_t 0 rfl (by kernel_rfl) (by kernel_rfl) (fun _ _ _ _ h => h) (fun K hK => ?_)
      go_big_quiet_op
      refine hK _ ?_
      clear hK K
      refine pi_t 1 rfl (by kernel_rfl) (by kernel_rfl) (fun _ _ _ _ h => h) (fun K hK => ?_)
      go_big_quiet_op
      refine hK _ ?_
      clear hK K
      refine pi_t 2 rfl (by kernel_rfl) (by kernel_rfl) (fun _ _ _ _ h => h) (fun K hK => ?_)
      go_big_quiet_op
      refine hK _ ?_
      clear hK K
      refine pi_t 3 rfl (by kernel_rfl) (by kernel_rfl) (fun _ _ _ _ h => h) (fun K hK => ?_)
      go_big_quiet_op
      refine hK _ ?_
      clear hK K
      refine pi_t 5 rfl (by kernel_rfl) (by kernel_rfl) (fun _ _ _ _ h => h) (fun K hK => ?_)
      go_big_quiet_op
      refine hK _ ?_
      clear hK K
      refine pi_t 8 rfl (by kernel_rfl) (by kernel_rfl) (fun _ _ _ _ h => h) (fun K hK => ?_)
      go_big_quiet_op
      refine hK _ ?_
      clear hK K
      refine pi_t 9 rfl (by kernel_rfl) (by kernel_rfl) (fun _ _ _ _ h => h) (fun K hK => ?_)
      go_big_quiet_op
      refine hK _ ?_
      clear hK K
      refine pi_t 10 rfl (by kernel_rfl) (by kernel_rfl) (fun _ _ _ _ h => h) (fun K hK => ?_)
      go_big_quiet_op
      refine hK _ ?_
      clear hK K
      refine pi_c 4 (by assumption) rfl (by kernel_rfl) (by kernel_rfl) (fun _ _ _ _ h => h) (fun K hK => ?_)
      go_big_quiet_op
      refine hK _ ?_
      clear hK K
      refine pi_t 6 rfl (by kernel_rfl) (by kernel_rfl) (fun _ _ _ _ h => h) (fun K hK => ?_)
      go_big_quiet_op
      refine hK _ ?_
      clear hK K
      refine pi_c 7 (by assumption) rfl (by kernel_rfl) (by kernel_rfl) (fun _ _ _ _ h => h) (fun K hK => ?_)
      go_big_quiet_op
      refine hK _ ?_
      clear hK K
      refine pi_c 11 (by assumption) rfl (by kernel_rfl) (by kernel_rfl) (fun _ _ _ _ h => h) (fun K hK => ?_)
      go_big_quiet_op
      refine hK _ ?_
      clear hK K
      refine pi_t 12 rfl (by kernel_rfl) (by kernel_rfl) (fun _ _ _ _ h => h) (fun K hK => ?_)
      go_big_quiet_op
      refine hK _ ?_
      clear hK K
      refine pi_c 13 (by assumption) rfl (by kernel_rfl) (by kernel_rfl) (fun _ _ _ _ h => h) (fun K hK => ?_)
      go_big_quiet_op
      refine hK _ ?_
      clear hK K
      refine pi_l 14 rfl (by kernel_rfl) (fun K hK => ?_)
      go_wp2
      refine hK _ _ (fun _ h => afs_step h (Ext.alloc' _ _)) ?_
      clear hK K
      have hown2 : wr.drew.ownsRow w.heap.size 2 1 u6 pre.length (ints pre) := own_drew hown
      refine pi_l 15 rfl (by kernel_rfl) (fun K hK => ?_)
      go_wp2_with (at_builtin; refine wpList_app1 wr.drew x pre u6 w.heap.size 2 hown2 43 rfl _ _ rfl info_i64 Tryz.underlying43 rfl rfl ?a1 ?a2 ?_)
      case a1 => omega
      case a2 => exact hsE
      intro v' w' g1 g2 g3
      have hE2 : Ext w w' := ext_grown hE.drewR g2 (fun i hi => own_blk hown hi)
      have hm2 : Mod S wr w' := mod_grown (Ext.mod _ (Below.drew (Ext.refl wr))) g2 (fun i hi => (HSS.out i).2 hi)
      have G1 := Lib.hid g1
      clear g1 g2 g3 hown hown2
      go_wp2
      refine hK _ _ (fun _ _ => ⟨⟨w', hm2⟩, rfl⟩) ?_
      clear hK K
      refine pi_t 16 rfl (by kernel_rfl) (by kernel_rfl) (fun _ _ _ _ h => h) (fun K hK => ?_)
      go_big_quiet_op
      refine hK _ ?_
      clear hK K
      refine pi_end (by kernel_rfl) ?_
      go_wp2_with fail
      go_roundw
      case rel => exact ⟨k + 1, by omega, by go_num, by rw [HSN2.out, List.length_append]; exact G1.out, hE2⟩
      case measure => simp [intOf]; omega
    · obtain rfl : k = R := by omega
      rw [List.take_of_length_le (by rw [readL_len, HL.out]; exact Nat.le_refl _)] at hown
      have HOWN := Lib.hid hown
      obtain ⟨p1, n1, c1, rfl⟩ := own_slice hown
      clear hown
      go_wp2
      go_ret2
      exact ⟨_, rfl, by have := HOWN.out; rw [readL_len] at this; exact this, hE⟩
set_option maxRecDepth 20000 in
set_option maxHeartbeats 4000000 in
theorem RMin_c (l : List Int) (v : Value) (w : World) (hv : IntsAt w v l) (h0 : 0 < l.length) (h1 : l.length ≤ 1000000) :
    Calls Tryz.prog 196 #[v] w fun e w' => e = .returned (.tuple #[.int .i64 (leastF (fun k => l.getD k 0) l.length), .bool true]) ∧ w = w' := by
  obtain ⟨g, off, cap, rfl, hg, hc⟩ := hv.slice h0
  obtain ⟨n, hn⟩ : ∃ n, l.length = n := ⟨_, rfl⟩
  rw [hn] at h0 h1 hc ⊢
  have HC := Lib.hid hc
  have HN := Lib.hid hn
  have d0 := hc 0 h0
  have hz : ((n : Int) == 0) = false := by simp; omega
  rw [Nat.add_zero] at d0
  obtain ⟨f, hf⟩ : ∃ f : Nat → Int, f = fun k => l.getD k 0 := ⟨_, rfl⟩
  have hf0 : l.getD 0 0 = f 0 := by rw [hf]
  have hfk : ∀ k, l.getD k 0 = f k := fun k => by rw [hf]
  rw [← hf]
  rw [hf0] at d0
  have HF := Lib.hid hfk
  clear hc hv hn hf hf0 hfk
  go_enter Tryz.func196, Tryz.ntmps196
  go_wp2
  go_loop [4, 5] (fun u4 u5 => ∃ k : Nat, k ≤ n ∧ u4 = .int .i64 (leastF f k) ∧ u5 = .int .i64 k) (fun _ u5 => n - (intOf u5).toNat)
  case atStart => exact ⟨0, Nat.zero_le _, rfl, rfl⟩
  case round =>
    obtain ⟨k, hk, rfl, rfl⟩ := hrel
    by_cases hlt : k < n
    · have d := HC.out k hlt
      rw [HF.out k] at d
      have hs := leastF_succ f k
      have HS := Lib.hid hs
      clear hs d0 hz
      generalize leastF f k = m at *
      generalize f k = y at *
      by_cases hy : y < m
      · have hmin : min m y = y := by omega
        rw [hmin] at HS
        go_wp2
        go_round
        case rel => exact ⟨k + 1, by omega, by rw [HS.out], by go_num⟩
        case measure => simp [intOf]; omega
      · have hmin : min m y = m := by omega
        have hy2 : decide (y < m) = false := by simp; omega
        have hy3 : m ≤ y := by omega
        rw [hmin] at HS
        clear hy
        go_wp2
        go_round
        case rel => exact ⟨k + 1, by omega, by rw [HS.out], by go_num⟩
        case measure => simp [intOf]; omega
    · obtain rfl : k = n := by omega
      clear d0 hz
      go_wp2
      go_ret2
      exact ⟨rfl, rfl⟩
theorem least_min {l : List Int} (h : 0 < l.length) : leastF (fun k => l.getD k 0) l.length = minL l := by
  obtain ⟨h1, h2⟩ := minL_spec l (by intro e; rw [e] at h; simp at h)
  obtain ⟨r, hr, hr2⟩ := leastF_mem (fun k => l.getD k 0) l.length h
  have h3 := h2 _ (getD_mem hr)
  obtain ⟨j, hj, hj2⟩ := List.getElem_of_mem h1
  have h4 := (leastF_le (fun k => l.getD k 0) l.length).2 j hj
  have h5 : l.getD j 0 = minL l := by simp [hj, hj2]
  rw [h5] at h4
  rw [hr2] at h4 ⊢
  omega
set_option maxRecDepth 20000 in
set_option maxHeartbeats 4000000 in
theorem RLeast_c (G : Gr) (R W : Nat) (l cs : List Int) (v : Value) (w : World) (h : RGAt w G R W l) (hv : IntsAt w v cs) (hm : Meets R W cs) :
    Calls Tryz.prog 158 #[.pointer (some ⟨G.g, 0, none⟩), v] w fun e w' => e = .returned (.tuple #[.int .i64 (minL (readL W l cs)), .int .i64 0]) ∧ Ext w w' := by
  have r1 := h.r1
  have r2 := h.r2
  have hlen : (readL W l cs).length = R := by rw [readL_len, hm.len]
  have HLEN := Lib.hid hlen
  have hle := least_min (l := readL W l cs) (by omega)
  have HLE := Lib.hid hle
  have hrl : cs.length = R := hm.len
  have HRL := Lib.hid hrl
  clear hlen hle hrl
  go_enter Tryz.func158, Tryz.ntmps158
  go_wp2_with fail
  refine Calls.mono (RRead_c G R W l cs v _ h hv hm) ?_
  rintro e w1 ⟨u, rfl, ho, hx1⟩
  rw [HRL.out] at ho
  have hi := IntsAt.of_row ho
  go_wp2_with fail
  refine Calls.mono (RMin_c _ u _ hi (by have := HLEN.out; omega) (by have := HLEN.out; omega)) ?_
  rintro e w2 ⟨rfl, rfl⟩
  rw [HLE.out]
  go_wp2_with fail
  go_ret2
  exact ⟨rfl, hx1⟩
end Go.Proofs.YtfhdjekpdifajaaGreat
namespace Go.Proofs.YtfhdjekpdifajaaGreat
set_option linter.unusedVariables false
open Go.RowKit
/-- Numbers that a slice may read. -/
def Src (W : World) (p : Option Addr) (l : List Int) : Prop := l = [] ∨ ∃ g off, p = some ⟨g, off, none⟩ ∧ g < W.heap.size ∧ ∀ k, k < l.length → W.cell? ⟨g, off + k, none⟩ = some (.int .i64 (l.getD k 0))
theorem Src.ext {W W' : World} {p : Option Addr} {l : List Int} (h : Src W p l) (he : Ext W W') : Src W' p l := by
  rcases h with h | ⟨g, off, h1, h2, h3⟩
  · exact .inl h
  · exact .inr ⟨g, off, h1, Nat.lt_of_lt_of_le h2 he.size, fun k hk => ((bcell he).1 _ _ h2).trans (h3 k hk)⟩
/-- What an append leaves. -/
structure AppRes (base : Nat) (e : TypeId) (W w' : World) (v v' : Value) (xs l : List Int) : Prop where
  row : w'.ownsRow base e 1 v' (xs ++ l).length (ints (xs ++ l))
  ext : ∀ W0 : World, Ext W0 W → W0.heap.size ≤ base → Ext W0 w'
  keep : ∀ k, k < W.heap.size → v.ownBlock ≠ some k → w'.heap[k]? = W.heap[k]?
  size : W.heap.size ≤ w'.heap.size
  sl : (∃ g c', v = .slice (some ⟨g, 0, none⟩) xs.length c') → ∃ g c', v' = .slice (some ⟨g, 0, none⟩) (xs ++ l).length c'
theorem Src.keepB {W W' : World} {g off : Nat} {l : List Int} (h : Src W (some ⟨g, off, none⟩) l) (hk : W'.heap[g]? = W.heap[g]?) (hs : W.heap.size ≤ W'.heap.size) : Src W' (some ⟨g, off, none⟩) l := by
  rcases h with h | ⟨g', off', h1, h2, h3⟩
  · exact .inl h
  · have e := Option.some.inj h1
    cases e
    exact .inr ⟨g, off, rfl, Nat.lt_of_lt_of_le h2 hs, fun k hk' => by rw [← h3 k hk']; unfold World.cell?; rw [hk]⟩
theorem src_one (W : World) (x : Int) : Src (W.alloc (.cells #[.int .i64 x] 2)) (some ⟨W.heap.size, 0, none⟩) [x] := by
  refine .inr ⟨_, 0, rfl, by rw [size_alloc]; omega, fun k hk => ?_⟩
  have hk0 : k = 0 := by simp at hk; exact hk
  subst hk0
  exact (cell_of (heap_at W _ rfl) 0).trans rfl
section
variable {P : Program}
theorem wpList_appS (W : World) {ops : Array Oper} {rest : List Oper} {o : Oper} {a : Act} {Q : Exit → Act → World → Prop} (l xs : List Int) (v : Value) (base : Nat) (e : TypeId) (hown : W.ownsRow base e 1 v xs.length (ints xs)) (t : TypeId)
    (hgd : o.guard = none) (s y : Operand) (ho : o.op = .call { callee := .builtin .append, args := #[s, y], argTypes := #[t, t] })
    (hinfo : (P.info? e).map (fun i => (i.zero, i.size, i.bytes)) = some (some (.int .i64 0), 1, 8)) (ht : P.underlying t = some (.slice e))
    (hs : a.eval s = v) (p : Option Addr) (m c : Nat) (hx : a.eval y = .slice p m c) (hm : m = l.length) (hc : Src W p l)
    (hl : xs.length + m ≤ 1000000000000) (hbase : base ≤ W.heap.size)
    (h : ∀ v' w', AppRes base e W w' v v' xs l → wpList P ops Q rest (a.put o.dst v') w') :
    wpList P ops Q (o :: rest) a W := by
  obtain ⟨i0, hi, hz0, hz1, hz2⟩ := info_parts hinfo
  by_cases hl0 : l = []
  · subst hl0
    subst hm
    refine wpList_append_zero hgd s y t ho base e i0 1 ht hi v xs.length (ints xs) hs hown p c hx ?_
    exact h v W ⟨by rw [List.append_nil]; exact hown, fun W0 h _ => h, fun _ _ _ => rfl, Nat.le_refl _, fun hv => by rw [List.append_nil]; exact hv⟩
  · obtain ⟨g, off, rfl, _, hcc⟩ := hc.resolve_left hl0
    refine wpList_appl W l xs v base e hown t hgd s y ho hinfo ht hs g off m c hx hm (by rw [hm]; exact hcc) hl hbase ?_
    intro v' w' h1 h2 h3
    refine h v' w' ⟨h1, fun W0 hE hb => ext_grown0 hE h2 fun k hk => Nat.le_trans hb (own_blk hown hk), fun k hk hn => h2.block k hk (fun e => hn e.symm), h2.size, fun _ => ?_⟩
    rcases h1.2 with ⟨_, h0⟩ | ⟨g', cap', cur', hv, _⟩
    · exfalso
      apply hl0
      have : (xs ++ l).length = 0 := h0
      rw [List.length_append] at this
      exact List.length_eq_zero_iff.1 (by omega)
    · exact ⟨g', cap', hv⟩
end
end Go.Proofs.YtfhdjekpdifajaaGreat
namespace Go.Proofs.YtfhdjekpdifajaaGreat
set_option linter.unusedVariables false
open Go.RowKit
theorem own_cells1 {w : World} {base g n cap : Nat} {e : TypeId} {s : List Int} (h : w.ownsRow base e 1 (.slice (some ⟨g, 0, none⟩) n cap) s.length (ints s)) : n = s.length ∧ s.length ≤ cap ∧ g < w.heap.size ∧ ∀ k, k < s.length → w.cell? ⟨g, k, none⟩ = some (.int .i64 (s.getD k 0)) := by
  rcases h.2 with ⟨hv, _⟩ | ⟨g', cap', cur, hv, hb, hh, hc, hm, hs, ht⟩
  · cases hv
  · simp only [Value.slice.injEq, Option.some.injEq, Addr.mk.injEq] at hv
    obtain ⟨⟨rfl, _, _⟩, rfl, rfl⟩ := hv
    refine ⟨rfl, hc, lt_of hh, fun k hk => ?_⟩
    rw [cell_of hh]
    have : (cur.toList.take (s.length * 1))[k]? = (ints s)[k]? := by rw [ht]
    rw [List.getElem?_take_of_lt (by omega)] at this
    simp only [Array.getElem?_toList] at this
    rw [this]
    simp [ints, hk]
/-- A row of numbers in order, of the call's own. -/
structure SortAt (w W : World) (v : Value) (l s : List Int) : Prop where
  row : W.ownsRow w.heap.size 2 1 v s.length (ints s)
  sl : ∃ g cap, v = .slice (some ⟨g, 0, none⟩) s.length cap
  perm : s.Perm l
  ord : s.Pairwise (· ≤ ·)
theorem SortAt.ext {w W W' : World} {v : Value} {l s : List Int} (h : SortAt w W v l s) (he : Ext W W') : SortAt w W' v l s := ⟨own_ext h.row he, h.sl, h.perm, h.ord⟩
def SortPost (w : World) (l : List Int) (e : Ending) (w' : World) : Prop := ∃ u s, e = .returned u ∧ SortAt w w' u l s ∧ Ext w w'
theorem sort_fin {w W : World} {base g c k : Nat} {l s T TA DR : List Int} {x : Int} (hr : W.ownsRow base 2 1 (.slice (some ⟨g, 0, none⟩) T.length c) T.length (ints T)) (hT : T = TA ++ [x] ++ DR)
    (h1 : (TA ++ [x] ++ DR).Pairwise (· ≤ ·)) (h2 : (TA ++ [x] ++ DR).Perm (s ++ [x])) (hp : s.Perm (l.take k)) (ht : l.take (k + 1) = l.take k ++ [x]) (hb : w.heap.size ≤ base) :
    SortAt w W (.slice (some ⟨g, 0, none⟩) T.length c) (l.take (k + 1)) T := by
  subst hT
  exact ⟨own_mono hr hb, ⟨g, c, rfl⟩, h2.trans (by rw [ht]; exact hp.append_right [x]), h1⟩
set_option maxRecDepth 20000 in
set_option maxHeartbeats 16000000 in
theorem RSorted_c (l : List Int) (v : Value) (w : World) (hv : IntsAt w v l) (h0 : 0 < l.length) (h1 : l.length ≤ 1000) :
    Calls Tryz.prog 220 #[v] w (SortPost w l) := by
  obtain ⟨vg, vo, vc, rfl, hg, hc⟩ := hv.slice h0
  obtain ⟨n, hn⟩ : ∃ n, l.length = n := ⟨_, rfl⟩
  rw [hn] at h0 h1 hc ⊢
  have HC := Lib.hid hc
  have HN := Lib.hid hn
  clear hc hv hn
  go_enter Tryz.func220, Tryz.ntmps220
  go_wp2_with fail
  go_loopw [3, 4] (fun u3 u4 wr => ∃ (k : Nat) (s : List Int), k ≤ n ∧ u4 = .int .i64 k ∧ SortAt w wr u3 (l.take k) s ∧ Ext w wr) (fun _ u4 _ => n - (intOf u4).toNat)
  case atStart => exact ⟨0, [], Nat.zero_le _, rfl, ⟨own_empty _ _, ⟨_, _, rfl⟩, by rw [List.take_zero], List.Pairwise.nil⟩, Ext.alloc' _ _⟩
  case round =>
    obtain ⟨k, s, hk, rfl, hS, hE⟩ := hrel
    have hsE := hE.size
    have hlen : s.length = k := by have := hS.perm.length_eq; rw [List.length_take, HN.out] at this; omega
    obtain ⟨sg, scap, rfl⟩ := hS.sl
    obtain ⟨_, hcap, hsg, hcell⟩ := own_cells1 hS.row
    have hsb := own_blk hS.row (k := sg) rfl
    have HS := Lib.hid hS
    have HCELL := Lib.hid hcell
    have HLEN := Lib.hid hlen
    rw [hlen]
    rw [hlen] at hcap
    clear hS hcell
    by_cases hlt : k < n
    · have dd := ((bcell hE).1 _ _ hg).trans (HC.out k hlt)
      have ld : vg < wr.heap.size := Nat.lt_of_lt_of_le hg hsE
      have hts : l.take (k + 1) = l.take k ++ [l.getD k 0] := by
        rw [List.take_succ_eq_append_getElem (by rw [HN.out]; exact hlt)]
        simp [show k < l.length by rw [HN.out]; exact hlt]
      have HTS := Lib.hid hts
      clear hts
      generalize l.getD k 0 = x at *
      rw [hlen] at HCELL
      clear hlen
      go_wp2_with fail
      rename World => w5
      go_loopw [5] (fun u5 wr => ∃ a : Nat, a ≤ k ∧ u5 = .int .i64 a ∧ (∀ j, a ≤ j → j < k → x < s.getD j 0) ∧ Ext w5 wr) (fun u5 _ => (intOf u5).toNat)
      case atStart => exact ⟨k, Nat.le_refl _, rfl, fun j h1 h2 => by omega, Ext.refl _⟩
      case round =>
        obtain ⟨a, ha, rfl, hgt, hE5⟩ := hrel
        have HGT := Lib.hid hgt
        have hsg' : sg < wr.heap.size := Nat.lt_of_lt_of_le hsg hE5.size
        have dd' := ((bcell hE5).1 _ _ ld).trans dd
        have ld' : vg < wr.heap.size := Nat.lt_of_lt_of_le ld hE5.size
        clear hgt
        by_cases hgo : 0 < a ∧ x < s.getD (a - 1) 0
        · obtain ⟨ha0, hax⟩ := hgo
          have da := ((bcell hE5).1 _ _ hsg).trans (HCELL.out (a - 1) (by omega))
          have HAX := Lib.hid hax
          obtain ⟨b, rfl⟩ : ∃ b, a = b + 1 := ⟨a - 1, by omega⟩
          rw [Nat.add_sub_cancel] at da HAX hax
          have hax' := hax
          generalize s.getD b 0 = y at da hax'
          clear hax dd
          go_wp2_with fail
          go_region
          go_wp2_with fail
          go_roundw
          case rel =>
            refine ⟨b, by omega, by go_num, fun j h1 h2 => ?_, hE5.drewR⟩
            by_cases e : j = b
            · rw [e]; exact HAX.out
            · exact HGT.out j (by omega) h2
          case measure => simp [intOf]
        · have hstop : a = 0 ∨ s.getD (a - 1) 0 ≤ x := by
            by_cases h : a = 0
            · exact .inl h
            · exact .inr (by have := fun h2 => hgo ⟨by omega, h2⟩; omega)
          have HST := Lib.hid hstop
          have HLE := Lib.hid (ins_sorted (x := x) HS.out.ord (a := a) (by rw [HLEN.out]; exact ha) hstop (fun j h1 h2 => HGT.out j h1 (by rw [← HLEN.out]; exact h2)))
          clear hgo hstop
          go_upto_region 6 with (fail)
          go_cut [29] (fun s29 wx => s29 = .bool false ∧ Ext wr wx)
          case first =>
            clear dd
            by_cases ha0 : a = 0
            · subst ha0
              go_wp2_with fail
              go_region
              go_wp2_with fail
              go_meet
              exact ⟨rfl, (Ext.refl _).drewR⟩
            · have hal : s.getD (a - 1) 0 ≤ x := HST.out.resolve_left ha0
              have da := ((bcell hE5).1 _ _ hsg).trans (HCELL.out (a - 1) (by omega))
              obtain ⟨b, rfl⟩ : ∃ b, a = b + 1 := ⟨a - 1, by omega⟩
              rw [Nat.add_sub_cancel] at da hal
              generalize s.getD b 0 = y at da hal
              have hb2 : decide (x < y) = false := by simp; omega
              clear ha0
              go_wp2_with fail
              go_region
              go_wp2_with fail
              go_meet
              exact ⟨by first | rfl | exact congrArg Value.bool (decide_eq_false (by omega)), (Ext.refl _).drewR⟩
          case rest =>
            obtain ⟨rfl, hx7⟩ := hcut
            rename World => w7
            have hE7 := hE5.trans' hx7
            have hsrc1 : Src w7 (some ⟨sg, a, none⟩) (s.drop a) := .inr ⟨sg, a, rfl, Nat.lt_of_lt_of_le hsg hE7.size, fun j hj => by
              rw [List.length_drop, HLEN.out] at hj
              rw [(bcell hE7).1 _ _ hsg, HCELL.out (a + j) (by omega)]
              simp [List.getElem?_drop]⟩
            have hsrc0 : Src w7 (some ⟨sg, 0, none⟩) (s.take a) := .inr ⟨sg, 0, rfl, Nat.lt_of_lt_of_le hsg hE7.size, fun j hj => by
              rw [List.length_take, HLEN.out] at hj
              rw [(bcell hE7).1 _ _ hsg, Nat.zero_add, HCELL.out j (by omega)]
              simp [List.getElem?_take_of_lt (show j < a by omega)]⟩
            have hld : (s.drop a).length = k - a := by rw [List.length_drop, HLEN.out]
            have hlt' : (s.take a).length = a := by rw [List.length_take, HLEN.out]; omega
            have HSRC1 := Lib.hid hsrc1
            have HSRC0 := Lib.hid hsrc0
            have HLD := Lib.hid hld
            have HLT := Lib.hid hlt'
            have dd7 := ((bcell hE7).1 _ _ ld).trans dd
            have ld7 : vg < w7.heap.size := Nat.lt_of_lt_of_le ld hE7.size
            have hE07 : Ext w w7 := hE.trans' hE7
            clear hsrc1 hsrc0 hld hlt' dd dd' ld ld' hE5 hx7 hsg' hE7 hsg
            go_upto_region 8 with (fail)
            go_cut [6] (fun s6 wx => ∃ (rg rc : Nat), s6 = .slice (some ⟨rg, 0, none⟩) (k - a) rc ∧ wx.ownsRow w7.heap.size 2 1 s6 (s.drop a).length (ints (s.drop a)) ∧ Ext w7 wx)
            case first =>
              have hE1 : Ext w7 (w7.alloc (.cells #[] 2)) := Ext.alloc' _ _
              have hown : (w7.alloc (.cells #[] 2)).ownsRow w7.heap.size 2 1 (.slice (some ⟨w7.heap.size, 0, none⟩) 0 0) ([] : List Int).length (ints []) := own_empty w7 _
              have hle : a ≤ scap := by omega
              by_cases hca : scap = a
              · subst hca
                have hd0 : s.drop scap = [] := List.drop_eq_nil_of_le (by rw [HLEN.out]; omega)
                have HD0 := Lib.hid hd0
                clear hd0 HSRC1 HSRC0 HLT HLE HST HGT
                go_wp2_with (at_builtin; go_loud (refine wpList_appS (w7.alloc (.cells #[] 2)) (s.drop scap) [] _ w7.heap.size 2 hown 43 rfl _ _ rfl info_i64 Tryz.underlying43 (by rfl) _ _ _ (by rfl) (by rw [HLD.out]; omega) (.inl HD0.out) ?a1 ?a2 ?_))
                case a1 => show 0 + 0 ≤ _; omega
                case a2 => exact hE1.size
                intro v' w' gg
                have hx := gg.ext w7 hE1 (Nat.le_refl _)
                obtain ⟨rg, rc, rfl⟩ := gg.sl ⟨_, _, rfl⟩
                have G1 := Lib.hid gg.row
                have HX := Lib.hid hx
                clear gg hx hown hE1
                go_wp2
                go_meet
                exact ⟨rg, rc, by first | rfl | (rw [List.nil_append, HLD.out]), by have := G1.out; rw [List.nil_append] at this; exact this, HX.out⟩
              · clear HSRC0 HLT HLE HST HGT
                have hs1 := HSRC1.out.ext hE1
                have HS1 := Lib.hid hs1
                clear hs1 HSRC1
                go_wp2_with (at_builtin; go_loud (refine wpList_appS (w7.alloc (.cells #[] 2)) (s.drop a) [] _ w7.heap.size 2 hown 43 rfl _ _ rfl info_i64 Tryz.underlying43 (by rfl) _ (k - a) _ (by rfl) HLD.out.symm HS1.out ?a1 ?a2 ?_))
                case a1 => show 0 + (k - a) ≤ _; omega
                case a2 => exact hE1.size
                intro v' w' gg
                have hx := gg.ext w7 hE1 (Nat.le_refl _)
                obtain ⟨rg, rc, rfl⟩ := gg.sl ⟨_, _, rfl⟩
                have G1 := Lib.hid gg.row
                have HX := Lib.hid hx
                clear gg hx hown hE1
                go_wp2
                go_meet
                exact ⟨rg, rc, by first | rfl | (rw [List.nil_append, HLD.out]), by have := G1.out; rw [List.nil_append] at this; exact this, HX.out⟩
            case rest =>
              obtain ⟨rg, rc, rfl, ho8, hx8⟩ := hcut
              rename World => w8
              have hb8 := own_blk ho8 (k := rg) rfl
              have hl8 := own_lt ho8 (k := rg) rfl
              have dd8 := ((bcell hx8).1 _ _ ld7).trans dd7
              have ld8 : vg < w8.heap.size := Nat.lt_of_lt_of_le ld7 hx8.size
              have HA := Lib.hid (HSRC0.out.ext hx8)
              have hsrcR : Src w8 (some ⟨rg, 0, none⟩) (s.drop a) := .inr ⟨rg, 0, rfl, hl8, fun j hj => by rw [Nat.zero_add]; have := own_cells1 (by rw [HLD.out] at ho8; rw [← HLD.out] at ho8; exact ho8); exact this.2.2.2 j hj⟩
              have HR := Lib.hid hsrcR
              have hE08 := hE07.trans' hx8
              obtain ⟨TA, hTA⟩ : ∃ TA, s.take a = TA := ⟨_, rfl⟩
              obtain ⟨DR, hDR⟩ : ∃ DR, s.drop a = DR := ⟨_, rfl⟩
              rw [hTA] at HA HLT HLE
              rw [hDR] at HR HLD HLE
              clear hTA hDR
              clear ho8 hsrcR HSRC0 HSRC1 dd7 ld7 hb8 hl8 hx8 hE07
              go_wp2_with fail
              have hC0 := af_drew w8
              refine pi_start (fun w' => ∃ x : After w8, w' = x.w) [] (by kernel_rfl) ?_
              refine pi_t 1 rfl (by kernel_rfl) (by kernel_rfl) (fun _ _ _ _ h => h) (fun K hK => ?_)
              go_big_quiet_op
              refine hK _ ?_
              clear hK K
              refine pi_t 2 rfl (by kernel_rfl) (by kernel_rfl) (fun _ _ _ _ h => h) (fun K hK => ?_)
              go_big_quiet_op
              refine hK _ ?_
              clear hK K
              refine pi_t 3 rfl (by kernel_rfl) (by kernel_rfl) (fun _ _ _ _ h => h) (fun K hK => ?_)
              go_big_quiet_op
              refine hK _ ?_
              clear hK K
              refine pi_t 5 rfl (by kernel_rfl) (by kernel_rfl) (fun _ _ _ _ h => h) (fun K hK => ?_)
              go_big_quiet_op
              refine hK _ ?_
              clear hK K
              refine pi_t 6 rfl (by kernel_rfl) (by kernel_rfl) (fun _ _ _ _ h => h) (fun K hK => ?_)
              go_big_quiet_op
              refine hK _ ?_
              clear hK K
              refine pi_t 7 rfl (by kernel_rfl) (by kernel_rfl) (fun _ _ _ _ h => h) (fun K hK => ?_)
              go_big_quiet_op
              refine hK _ ?_
              clear hK K
              refine pi_t 11 rfl (by kernel_rfl) (by kernel_rfl) (fun _ _ _ _ h => h) (fun K hK => ?_)
              go_big_quiet_op
              refine hK _ ?_
              clear hK K
              refine pi_c 8 (by assumption) rfl (by kernel_rfl) (by kernel_rfl) (fun _ _ _ _ h => h) (fun K hK => ?_)
              go_big_quiet_op
              refine hK _ ?_
              clear hK K
              refine pi_b 0 9 rfl rfl (by kernel_rfl) (fun K hK => ?_) (fun K hK => ?_)
              · go_wp2
                refine hK _ _ (fun _ h => af_step h (Ext.alloc' _ _)) ?_
                clear hK K
                have hEa : Ext w8 (w8.alloc (.cells #[] 2)).drew := ((Ext.refl w8).allocR _).drewR
                have hra : (w8.alloc (.cells #[] 2)).drew.ownsRow w8.heap.size 2 1 (.slice (some ⟨w8.heap.size, 0, none⟩) 0 0) ([] : List Int).length (ints []) := own_drew (own_empty w8 2)
                have hsa : w8.heap.size < (w8.alloc (.cells #[] 2)).drew.heap.size := by show w8.heap.size < (w8.alloc _).heap.size; rw [size_alloc]; exact Nat.lt_succ_self _
                generalize (w8.alloc (.cells #[] 2)).drew = WA at *
                have RA := Lib.hid hra
                clear hra
                refine pi_b 4 9 rfl rfl (by kernel_rfl) (fun K hK => ?_) (fun K hK => ?_)
                · go_wp2_with (at_builtin; refine wpList_appS WA TA [] _ w8.heap.size 2 RA.out 43 rfl _ _ rfl info_i64 Tryz.underlying43 (by rfl) _ _ _ (by rfl) HLT.out.symm (HA.out.ext hEa) ?a1 ?a2 ?_)
                  case a1 => first | (show 0 + a ≤ _; omega) | (have hh := HL2.out; omega) | (have hh := HL1.out; omega) | (have hh := HL2.out; simp only [List.length_singleton]; omega) | (have hh := HL1.out; simp only [List.length_singleton]; omega)
                  case a2 => exact hEa.size
                  intro v1 WB gg
                  have hE1 : Ext w8 WB := gg.ext w8 hEa (Nat.le_refl _)
                  have rr := gg.row
                  have ss := gg.sl ⟨_, _, rfl⟩
                  generalize hT : [] ++ TA = T1 at rr ss
                  obtain ⟨g1, c1, rfl⟩ := ss
                  have R1 := Lib.hid rr
                  have hl : T1.length = a := by rw [← hT, List.nil_append]; exact HLT.out
                  have HL1 := Lib.hid hl
                  have HT1 := Lib.hid hT
                  clear hl hT rr
                  clear gg
                  go_wp2
                  refine hK _ _ (fun _ _ => ⟨⟨WB, hE1⟩, rfl⟩) ?_
                  clear hK K
                  refine pi_l 9 rfl (by kernel_rfl) (fun K hK => ?_)
                  go_wp2
                  refine hK _ _ (fun _ h => af_step h (Ext.alloc' _ _)) ?_
                  clear hK K
                  have hs2 : Src (WB.alloc (.cells #[.int .i64 x] 2)) (some ⟨WB.heap.size, 0, none⟩) [x] := src_one WB x
                  have hE2 : Ext w8 (WB.alloc (.cells #[.int .i64 x] 2)) := hE1.allocR _
                  have R2 := Lib.hid (own_ext R1.out (Ext.alloc' WB (.cells #[.int .i64 x] 2)))
                  generalize WB.heap.size = lb at *
                  generalize WB.alloc (.cells #[.int .i64 x] 2) = WC at *
                  clear R1
                  refine pi_l 10 rfl (by kernel_rfl) (fun K hK => ?_)
                  go_wp2_with (at_builtin; refine wpList_appS WC [x] T1 _ w8.heap.size 2 R2.out 43 rfl _ _ rfl info_i64 Tryz.underlying43 (by rfl) _ _ _ (by rfl) rfl hs2 ?a1 ?a2 ?_)
                  case a1 => first | (show 0 + a ≤ _; omega) | (have hh := HL2.out; omega) | (have hh := HL1.out; omega) | (have hh := HL2.out; simp only [List.length_singleton]; omega) | (have hh := HL1.out; simp only [List.length_singleton]; omega)
                  case a2 => exact hE2.size
                  intro v8 WY gg
                  have hE8 : Ext w8 WY := gg.ext w8 hE2 (Nat.le_refl _)
                  have rr := gg.row
                  have ss := gg.sl ⟨_, _, rfl⟩
                  generalize hT : T1 ++ [x] = T2 at rr ss
                  obtain ⟨g8, c8, rfl⟩ := ss
                  have R8 := Lib.hid rr
                  have hl : T2.length = a + 1 := by rw [← hT, List.length_append, HL1.out]; rfl
                  have HL2 := Lib.hid hl
                  have HT2 := Lib.hid hT
                  clear hl hT rr
                  clear gg
                  go_wp2
                  refine hK _ _ (fun _ _ => ⟨⟨WY, hE8⟩, rfl⟩) ?_
                  clear hK K
                  refine pi_l 12 rfl (by kernel_rfl) (fun K hK => ?_)
                  go_wp2_with (at_builtin; refine wpList_appS WY DR T2 _ w8.heap.size 2 R8.out 43 rfl _ _ rfl info_i64 Tryz.underlying43 (by rfl) _ _ _ (by rfl) HLD.out.symm (HR.out.ext hE8) ?a1 ?a2 ?_)
                  case a1 => first | (show 0 + a ≤ _; omega) | (have hh := HL2.out; omega) | (have hh := HL1.out; omega) | (have hh := HL2.out; simp only [List.length_singleton]; omega) | (have hh := HL1.out; simp only [List.length_singleton]; omega)
                  case a2 => exact hE8.size
                  intro v9 WZ gg
                  have hE9 : Ext w8 WZ := gg.ext w8 hE8 (Nat.le_refl _)
                  have rr := gg.row
                  have ss := gg.sl ⟨_, _, rfl⟩
                  generalize hT : T2 ++ DR = T3 at rr ss
                  obtain ⟨g9, c9, rfl⟩ := ss
                  have R9 := Lib.hid rr
                  have HT3 := Lib.hid hT
                  clear hT rr
                  clear gg
                  go_wp2
                  refine hK _ _ (fun _ _ => ⟨⟨WZ, hE9⟩, rfl⟩) ?_
                  clear hK K
                  refine pi_t 13 rfl (by kernel_rfl) (by kernel_rfl) (fun _ _ _ _ h => h) (fun K hK => ?_)
                  go_big_quiet_op
                  refine hK _ ?_
                  clear hK K
                  refine pi_end (by kernel_rfl) ?_
                  go_wp2
                  have hfin := Lib.hid (sort_fin (w := w) R9.out (by rw [← HT3.out, ← HT2.out, ← HT1.out, List.nil_append]) HLE.out.1 HLE.out.2 HS.out.perm HTS.out hE08.size)
                  have hEf := hE08.trans' hE9
                  go_roundw
                  case rel => exact ⟨k + 1, _, by omega, by go_num, hfin.out, hEf⟩
                  case measure => simp [intOf]; omega
                · go_wp2
                  refine hK _ _ (fun _ h => af_step h (Ext.alloc' _ _)) ?_
                  clear hK K
                  have hsX : Src (WA.alloc (.cells #[.int .i64 x] 2)) (some ⟨WA.heap.size, 0, none⟩) [x] := src_one WA x
                  have hEx : Ext w8 (WA.alloc (.cells #[.int .i64 x] 2)) := hEa.allocR _
                  have RX := Lib.hid (own_ext RA.out (Ext.alloc' WA (.cells #[.int .i64 x] 2)))
                  have hlb : WA.heap.size < (WA.alloc (.cells #[.int .i64 x] 2)).heap.size := by rw [size_alloc]; exact Nat.lt_succ_self _
                  generalize WA.heap.size = lb at *
                  generalize WA.alloc (.cells #[.int .i64 x] 2) = WX at *
                  clear RA
                  refine pi_l 4 rfl (by kernel_rfl) (fun K hK => ?_)
                  go_wp2_with (at_builtin; refine wpList_appS WX TA [] _ w8.heap.size 2 RX.out 43 rfl _ _ rfl info_i64 Tryz.underlying43 (by rfl) _ _ _ (by rfl) HLT.out.symm (HA.out.ext hEx) ?a1 ?a2 ?_)
                  case a1 => first | (show 0 + a ≤ _; omega) | (have hh := HL2.out; omega) | (have hh := HL1.out; omega) | (have hh := HL2.out; simp only [List.length_singleton]; omega) | (have hh := HL1.out; simp only [List.length_singleton]; omega)
                  case a2 => exact hEx.size
                  intro v1 WC gg
                  have hE1 : Ext w8 WC := gg.ext w8 hEx (Nat.le_refl _)
                  have rr := gg.row
                  have ss := gg.sl ⟨_, _, rfl⟩
                  generalize hT : [] ++ TA = T1 at rr ss
                  obtain ⟨g1, c1, rfl⟩ := ss
                  have R1 := Lib.hid rr
                  have hl : T1.length = a := by rw [← hT, List.nil_append]; exact HLT.out
                  have HL1 := Lib.hid hl
                  have HT1 := Lib.hid hT
                  clear hl hT rr
                  have hs2 : Src WC (some ⟨lb, 0, none⟩) [x] := hsX.keepB (gg.keep lb hlb (fun e => by have e' : some w8.heap.size = some lb := e; have := Option.some.inj e'; omega)) gg.size
                  clear gg
                  go_wp2
                  refine hK _ _ (fun _ _ => ⟨⟨WC, hE1⟩, rfl⟩) ?_
                  clear hK K
                  refine pi_l 10 rfl (by kernel_rfl) (fun K hK => ?_)
                  go_wp2_with (at_builtin; refine wpList_appS WC [x] T1 _ w8.heap.size 2 R1.out 43 rfl _ _ rfl info_i64 Tryz.underlying43 (by rfl) _ _ _ (by rfl) rfl hs2 ?a1 ?a2 ?_)
                  case a1 => first | (show 0 + a ≤ _; omega) | (have hh := HL2.out; omega) | (have hh := HL1.out; omega) | (have hh := HL2.out; simp only [List.length_singleton]; omega) | (have hh := HL1.out; simp only [List.length_singleton]; omega)
                  case a2 => exact hE1.size
                  intro v8 WY gg
                  have hE8 : Ext w8 WY := gg.ext w8 hE1 (Nat.le_refl _)
                  have rr := gg.row
                  have ss := gg.sl ⟨_, _, rfl⟩
                  generalize hT : T1 ++ [x] = T2 at rr ss
                  obtain ⟨g8, c8, rfl⟩ := ss
                  have R8 := Lib.hid rr
                  have hl : T2.length = a + 1 := by rw [← hT, List.length_append, HL1.out]; rfl
                  have HL2 := Lib.hid hl
                  have HT2 := Lib.hid hT
                  clear hl hT rr
                  clear gg
                  go_wp2
                  refine hK _ _ (fun _ _ => ⟨⟨WY, hE8⟩, rfl⟩) ?_
                  clear hK K
                  refine pi_l 12 rfl (by kernel_rfl) (fun K hK => ?_)
                  go_wp2_with (at_builtin; refine wpList_appS WY DR T2 _ w8.heap.size 2 R8.out 43 rfl _ _ rfl info_i64 Tryz.underlying43 (by rfl) _ _ _ (by rfl) HLD.out.symm (HR.out.ext hE8) ?a1 ?a2 ?_)
                  case a1 => first | (show 0 + a ≤ _; omega) | (have hh := HL2.out; omega) | (have hh := HL1.out; omega) | (have hh := HL2.out; simp only [List.length_singleton]; omega) | (have hh := HL1.out; simp only [List.length_singleton]; omega)
                  case a2 => exact hE8.size
                  intro v9 WZ gg
                  have hE9 : Ext w8 WZ := gg.ext w8 hE8 (Nat.le_refl _)
                  have rr := gg.row
                  have ss := gg.sl ⟨_, _, rfl⟩
                  generalize hT : T2 ++ DR = T3 at rr ss
                  obtain ⟨g9, c9, rfl⟩ := ss
                  have R9 := Lib.hid rr
                  have HT3 := Lib.hid hT
                  clear hT rr
                  clear gg
                  go_wp2
                  refine hK _ _ (fun _ _ => ⟨⟨WZ, hE9⟩, rfl⟩) ?_
                  clear hK K
                  refine pi_t 13 rfl (by kernel_rfl) (by kernel_rfl) (fun _ _ _ _ h => h) (fun K hK => ?_)
                  go_big_quiet_op
                  refine hK _ ?_
                  clear hK K
                  refine pi_end (by kernel_rfl) ?_
                  go_wp2
                  have hfin := Lib.hid (sort_fin (w := w) R9.out (by rw [← HT3.out, ← HT2.out, ← HT1.out, List.nil_append]) HLE.out.1 HLE.out.2 HS.out.perm HTS.out hE08.size)
                  have hEf := hE08.trans' hE9
                  go_roundw
                  case rel => exact ⟨k + 1, _, by omega, by go_num, hfin.out, hEf⟩
                  case measure => simp [intOf]; omega
              · go_wp2
                refine hK _ _ (fun _ h => af_step h (Ext.alloc' _ _)) ?_
                clear hK K
                have hsX : Src (w8.alloc (.cells #[.int .i64 x] 2)).drew (some ⟨w8.heap.size, 0, none⟩) [x] := src_one w8 x
                have h80 : Ext w8 (w8.alloc (.cells #[.int .i64 x] 2)).drew := ((Ext.refl w8).allocR _).drewR
                obtain ⟨WX, hWX⟩ : ∃ WX, (w8.alloc (.cells #[.int .i64 x] 2)).drew = WX := ⟨_, rfl⟩
                rw [hWX] at hsX h80 ⊢
                clear hWX
                refine pi_l 0 rfl (by kernel_rfl) (fun K hK => ?_)
                go_wp2
                refine hK _ _ (fun _ h => af_step h (Ext.alloc' _ _)) ?_
                clear hK K
                have hEa : Ext WX (WX.alloc (.cells #[] 2)) := Ext.alloc' _ _
                have hra : (WX.alloc (.cells #[] 2)).ownsRow WX.heap.size 2 1 (.slice (some ⟨WX.heap.size, 0, none⟩) 0 0) ([] : List Int).length (ints []) := own_empty WX 2
                have RA := Lib.hid hra
                generalize WX.alloc (.cells #[] 2) = WA at *
                clear hra
                refine pi_l 4 rfl (by kernel_rfl) (fun K hK => ?_)
                go_wp2_with (at_builtin; refine wpList_appS WA TA [] _ WX.heap.size 2 RA.out 43 rfl _ _ rfl info_i64 Tryz.underlying43 (by rfl) _ _ _ (by rfl) HLT.out.symm (HA.out.ext (h80.trans' hEa)) ?a1 ?a2 ?_)
                case a1 => first | (show 0 + a ≤ _; omega) | (have hh := HL2.out; omega) | (have hh := HL1.out; omega) | (have hh := HL2.out; simp only [List.length_singleton]; omega) | (have hh := HL1.out; simp only [List.length_singleton]; omega)
                case a2 => exact hEa.size
                intro v1 WC gg
                have hE1 : Ext WX WC := gg.ext WX hEa (Nat.le_refl _)
                have rr := gg.row
                have ss := gg.sl ⟨_, _, rfl⟩
                generalize hT : [] ++ TA = T1 at rr ss
                obtain ⟨g1, c1, rfl⟩ := ss
                have R1 := Lib.hid rr
                have hl : T1.length = a := by rw [← hT, List.nil_append]; exact HLT.out
                have HL1 := Lib.hid hl
                have HT1 := Lib.hid hT
                clear hl hT rr
                clear gg
                go_wp2
                refine hK _ _ (fun _ _ => ⟨⟨WC, h80.trans' hE1⟩, rfl⟩) ?_
                clear hK K
                refine pi_l 10 rfl (by kernel_rfl) (fun K hK => ?_)
                go_wp2_with (at_builtin; refine wpList_appS WC [x] T1 _ WX.heap.size 2 R1.out 43 rfl _ _ rfl info_i64 Tryz.underlying43 (by rfl) _ _ _ (by rfl) rfl (hsX.ext hE1) ?a1 ?a2 ?_)
                case a1 => first | (show 0 + a ≤ _; omega) | (have hh := HL2.out; omega) | (have hh := HL1.out; omega) | (have hh := HL2.out; simp only [List.length_singleton]; omega) | (have hh := HL1.out; simp only [List.length_singleton]; omega)
                case a2 => exact hE1.size
                intro v8 WY gg
                have hE8 : Ext WX WY := gg.ext WX hE1 (Nat.le_refl _)
                have rr := gg.row
                have ss := gg.sl ⟨_, _, rfl⟩
                generalize hT : T1 ++ [x] = T2 at rr ss
                obtain ⟨g8, c8, rfl⟩ := ss
                have R8 := Lib.hid rr
                have hl : T2.length = a + 1 := by rw [← hT, List.length_append, HL1.out]; rfl
                have HL2 := Lib.hid hl
                have HT2 := Lib.hid hT
                clear hl hT rr
                clear gg
                go_wp2
                refine hK _ _ (fun _ _ => ⟨⟨WY, h80.trans' hE8⟩, rfl⟩) ?_
                clear hK K
                refine pi_l 12 rfl (by kernel_rfl) (fun K hK => ?_)
                go_wp2_with (at_builtin; refine wpList_appS WY DR T2 _ WX.heap.size 2 R8.out 43 rfl _ _ rfl info_i64 Tryz.underlying43 (by rfl) _ _ _ (by rfl) HLD.out.symm (HR.out.ext (h80.trans' hE8)) ?a1 ?a2 ?_)
                case a1 => first | (show 0 + a ≤ _; omega) | (have hh := HL2.out; omega) | (have hh := HL1.out; omega) | (have hh := HL2.out; simp only [List.length_singleton]; omega) | (have hh := HL1.out; simp only [List.length_singleton]; omega)
                case a2 => exact hE8.size
                intro v9 WZ gg
                have hE9 : Ext WX WZ := gg.ext WX hE8 (Nat.le_refl _)
                have rr := gg.row
                have ss := gg.sl ⟨_, _, rfl⟩
                generalize hT : T2 ++ DR = T3 at rr ss
                obtain ⟨g9, c9, rfl⟩ := ss
                have R9 := Lib.hid rr
                have HT3 := Lib.hid hT
                clear hT rr
                clear gg
                go_wp2
                refine hK _ _ (fun _ _ => ⟨⟨WZ, h80.trans' hE9⟩, rfl⟩) ?_
                clear hK K
                refine pi_t 13 rfl (by kernel_rfl) (by kernel_rfl) (fun _ _ _ _ h => h) (fun K hK => ?_)
                go_big_quiet_op
                refine hK _ ?_
                clear hK K
                refine pi_end (by kernel_rfl) ?_
                go_wp2
                have hfin := Lib.hid (sort_fin (w := w) R9.out (by rw [← HT3.out, ← HT2.out, ← HT1.out, List.nil_append]) HLE.out.1 HLE.out.2 HS.out.perm HTS.out (Nat.le_trans hE08.size h80.size))
                have hEf := hE08.trans' (h80.trans' hE9)
                go_roundw
                case rel => exact ⟨k + 1, _, by omega, by go_num, hfin.out, hEf⟩
                case measure => simp [intOf]; omega
    · obtain rfl : k = n := by omega
      rw [List.take_of_length_le (by rw [HN.out]; exact Nat.le_refl _)] at HS
      rw [HLEN.out] at HS
      go_wp2
      go_ret
      exact ⟨_, s, rfl, HS.out, hE⟩
set_option maxRecDepth 20000 in
set_option maxHeartbeats 4000000 in
theorem RMedian_c (l : List Int) (v : Value) (w : World) (hv : IntsAt w v l) (h0 : 0 < l.length) (h1 : l.length ≤ 1000) :
    Calls Tryz.prog 195 #[v] w fun e w' => ∃ x, e = .returned (.tuple #[.int .i64 x, .bool true]) ∧ IsKth l ((l.length - 1) / 2) x ∧ Ext w w' := by
  have HS := Lib.hid (RSorted_c l v w hv h0 h1)
  obtain ⟨vg, vo, vc, rfl, hg, hc⟩ := hv.slice h0
  obtain ⟨n, hn⟩ : ∃ n, l.length = n := ⟨_, rfl⟩
  rw [hn] at h0 h1 HS ⊢
  have HN := Lib.hid hn
  have hz : ((n : Int) == 0) = false := by simp; omega
  have hq : ((n : Int) - 1).tdiv 2 = (((n - 1) / 2 : Nat) : Int) := by rw [Int.tdiv_eq_ediv_of_nonneg (by omega)]; omega
  have hq2 : (n - 1) / 2 < n := by omega
  obtain ⟨m, hm⟩ : ∃ m, (n - 1) / 2 = m := ⟨_, rfl⟩
  rw [hm] at hq hq2 ⊢
  clear hc hv hn hm
  go_enter Tryz.func195, Tryz.ntmps195
  go_wp2_with fail
  refine Calls.mono HS.out ?_
  rintro e w1 ⟨u, s, rfl, hS, hx1⟩
  have hlen : s.length = n := by rw [hS.perm.length_eq]; exact HN.out
  obtain ⟨sg, scap, rfl⟩ := hS.sl
  obtain ⟨_, _, hsg, hcell⟩ := own_cells1 hS.row
  rw [hlen] at hcell ⊢
  have dm := hcell m hq2
  have hk := kth_perm hS.perm (kth_sorted m (by rw [hlen]; exact hq2) hS.ord)
  have e1 : s.getD m 0 = s[m]'(by rw [hlen]; exact hq2) := by simp [hlen, hq2]
  rw [← e1] at hk
  generalize s.getD m 0 = x at *
  have HK := Lib.hid hk
  have hmz : (m : Int) < (n : Int) := by omega
  clear hS hcell hk e1 hlen HS
  go_wp2
  go_ret2
  exact ⟨x, rfl, HK.out, hx1⟩
set_option maxRecDepth 20000 in
set_option maxHeartbeats 4000000 in
theorem RMiddle_c (G : Gr) (R W : Nat) (l cs : List Int) (v : Value) (w : World) (h : RGAt w G R W l) (hv : IntsAt w v cs) (hm : Meets R W cs) :
    Calls Tryz.prog 157 #[.pointer (some ⟨G.g, 0, none⟩), v] w fun e w' => ∃ x, e = .returned (.tuple #[.int .i64 x, .int .i64 0]) ∧ IsKth (readL W l cs) ((R - 1) / 2) x ∧ Ext w w' := by
  have r1 := h.r1
  have r2 := h.r2
  have hlen : (readL W l cs).length = R := by rw [readL_len, hm.len]
  have HLEN := Lib.hid hlen
  have hrl : cs.length = R := hm.len
  have HRL := Lib.hid hrl
  clear hlen hrl
  go_enter Tryz.func157, Tryz.ntmps157
  go_wp2_with fail
  refine Calls.mono (RRead_c G R W l cs v _ h hv hm) ?_
  rintro e w1 ⟨u, rfl, ho, hx1⟩
  rw [HRL.out] at ho
  have hi := IntsAt.of_row ho
  go_wp2_with fail
  refine Calls.mono (RMedian_c _ u _ hi (by have := HLEN.out; omega) (by have := HLEN.out; omega)) ?_
  rintro e w2 ⟨x, rfl, hk, hx2⟩
  rw [HLEN.out] at hk
  have HK := Lib.hid hk
  clear hk
  go_wp2_with fail
  go_ret2
  exact ⟨x, rfl, HK.out, hx1.trans' hx2⟩
end Go.Proofs.YtfhdjekpdifajaaGreat
namespace Go.Proofs.YtfhdjekpdifajaaGreat
set_option linter.unusedVariables false
open Go.RowKit
theorem and_16 (x : Int) (h0 : 0 ≤ x) (h1 : x < 18446744073709551616) : bits BinOp.and IntKind.u64 x 65535 = x % 65536 := and_mask x 16 (by decide) h0 h1
theorem w16 (x : Int) : wrap64 (x % 65536) = x % 65536 := by unfold wrap64; omega
theorem wa16 (x : Int) (h : U64 x) : wrap64 (bits BinOp.and IntKind.u64 x 65535) = x % 65536 := by rw [and_16 x h.1 h.2, w16]
/-- A number's digit to base 65536. -/
def dg (x : Int) (i : Nat) : Int := x / (65536 ^ i : Int) % 65536
theorem dg_bd (x : Int) (i : Nat) : 0 ≤ dg x i ∧ dg x i ≤ 65535 := by unfold dg; omega
theorem dg0 (x : Int) : dg x 0 = x % 65536 := by unfold dg; rw [show (65536 : Int) ^ 0 = 1 from rfl]; omega
theorem dg1 (x : Int) : dg x 1 = x / 65536 % 65536 := rfl
theorem dg2 (x : Int) : dg x 2 = x / 4294967296 % 65536 := rfl
theorem dg3 (x : Int) : dg x 3 = x / 281474976710656 % 65536 := rfl
theorem dg4 (x : Int) : dg x 4 = x / 18446744073709551616 % 65536 := rfl
theorem dg5 (x : Int) : dg x 5 = x / 1208925819614629174706176 % 65536 := rfl
theorem dg6 (x : Int) : dg x 6 = x / 79228162514264337593543950336 % 65536 := rfl
theorem dg7 (x : Int) : dg x 7 = x / 5192296858534827628530496329220096 % 65536 := rfl
theorem dg8 (x : Int) : dg x 8 = x / 340282366920938463463374607431768211456 % 65536 := rfl
theorem dg9 (x : Int) : dg x 9 = x / 22300745198530623141535718272648361505980416 % 65536 := rfl
def longA (d : Nat → Int) : Value := .agg #[.int .i64 (d 0), .int .i64 (d 1), .int .i64 (d 2), .int .i64 (d 3), .int .i64 (d 4), .int .i64 (d 5), .int .i64 (d 6), .int .i64 (d 7), .int .i64 (d 8), .int .i64 (d 9)]
def longV (x : Int) : Value := longA (dg x)
theorem hid_lo (x : Int) : lo x % 65536 = dg x 0 ∧ lo x / 65536 % 65536 = dg x 1 ∧ lo x / 4294967296 % 65536 = dg x 2 ∧ lo x / 281474976710656 % 65536 = dg x 3 := by
  rw [dg0, dg1, dg2, dg3]; unfold lo
  refine ⟨?_, ?_, ?_, ?_⟩ <;> omega
theorem hid_hi (x : Int) : uu (hi x) % 65536 = dg x 4 ∧ uu (hi x) / 65536 % 65536 = dg x 5 ∧ uu (hi x) / 4294967296 % 65536 = dg x 6 ∧ uu (hi x) / 281474976710656 % 65536 = dg x 7 := by
  rw [dg4, dg5, dg6, dg7]; unfold uu hi
  refine ⟨?_, ?_, ?_, ?_⟩ <;> omega
theorem hid_top (x : Int) (h : W128 x) : dg x 8 = (bif decide (hi x < 0) then 65535 else 0) ∧ dg x 9 = (bif decide (hi x < 0) then 65535 else 0) := by
  rw [dg8, dg9]
  simp only [hi_neg]
  unfold W128 at h
  by_cases hx : x < 0 <;> simp only [hx, decide_true, decide_false, cond_true, cond_false] <;> omega
theorem div_u {x k : Int} (h : U64 x) (hk : 1 ≤ k) : U64 (x / k) := by
  refine ⟨Int.ediv_nonneg h.1 (by omega), ?_⟩
  have := Int.ediv_le_self k h.1
  have := h.2
  omega
set_option maxRecDepth 20000 in
set_option maxHeartbeats 4000000 in
theorem Of_core (x : Int) (b : Bool) (hb : decide (hi x < 0) = b) (h8 : dg x 8 = (bif b then 65535 else 0)) (h9 : dg x 9 = (bif b then 65535 else 0)) (w : World) :
    Calls Tryz.prog 176 #[.agg #[.int .i64 (hi x), .int .u64 (lo x)]] w fun e w' => e = .returned (longV x) ∧ Ext w w' := by
  have hl := lo_u x
  have hh := uu_u (hi x)
  obtain ⟨x1, x2⟩ := hl
  obtain ⟨y1, y2⟩ := hh
  have e1 := u64_wrap (hi x)
  obtain ⟨l0, l1, l2, l3⟩ := hid_lo x
  obtain ⟨g0, g1, g2, g3⟩ := hid_hi x
  have a0 := (wa16 (lo x) (lo_u x)).trans l0
  have a1 := (wa16 (lo x / 65536) (div_u (lo_u x) (by decide))).trans l1
  have a2 := (wa16 (lo x / 4294967296) (div_u (lo_u x) (by decide))).trans l2
  have a3 := (wa16 (lo x / 281474976710656) (div_u (lo_u x) (by decide))).trans l3
  have a4 := (wa16 (uu (hi x)) (uu_u _)).trans g0
  have a5 := (wa16 (uu (hi x) / 65536) (div_u (uu_u _) (by decide))).trans g1
  have a6 := (wa16 (uu (hi x) / 4294967296) (div_u (uu_u _) (by decide))).trans g2
  have a7 := (wa16 (uu (hi x) / 281474976710656) (div_u (uu_u _) (by decide))).trans g3
  have H8 := Lib.hid h8
  have H9 := Lib.hid h9
  clear h8 h9 l0 l1 l2 l3 g0 g1 g2 g3
  go_enter Tryz.func176, Tryz.ntmps176
  go_wp2
  refine wp_loop_rounds 5 ?_
  rw [rounds_succ]
  go_wp2_with fail
  rw [rounds_succ]
  go_wp2_with fail
  rw [rounds_succ]
  go_wp2_with fail
  rw [rounds_succ]
  go_wp2_with fail
  rw [rounds_succ]
  cases b
  all_goals
    go_wp2_with fail
    refine bodyPost_ret (v := longV x) ?_ rfl ⟨rfl, by (repeat' (first | exact Ext.refl _ | assumption | apply Ext.allocR | apply Ext.drewR | apply Ext.drewNR | (refine Ext.trans' ?_ (by assumption))))⟩
    unfold longV longA
    rw [H8.out, H9.out]
    simp [results, Tryz.results176, go_sem]
theorem LOf_c (x : Int) (h : W128 x) (w : World) :
    Calls Tryz.prog 176 #[.agg #[.int .i64 (hi x), .int .u64 (lo x)]] w fun e w' => e = .returned (longV x) ∧ Ext w w' :=
  Of_core x _ rfl (hid_top x h).1 (hid_top x h).2 w
set_option maxHeartbeats 1000000 in
theorem Below_c (d : Nat → Int) (h0 : 0 ≤ d 9) (h1 : d 9 ≤ 65535) (w : World) :
    Calls Tryz.prog 175 #[longA d] w fun e w' => e = .returned (.bool (decide (32768 ≤ d 9))) ∧ Ext w w' := by
  unfold longA
  go_enter Tryz.func175, Tryz.ntmps175
  go_wp2
  go_ret
  exact ⟨rfl, by (repeat' (first | exact Ext.refl _ | assumption | apply Ext.allocR | apply Ext.drewR | apply Ext.drewNR | (refine Ext.trans' ?_ (by assumption))))⟩
end Go.Proofs.YtfhdjekpdifajaaGreat
namespace Go.Proofs.YtfhdjekpdifajaaGreat
set_option linter.unusedVariables false
open Go.RowKit
theorem uu_dg (n : Int) : uu n % 65536 = dg n 0 ∧ uu n / 65536 % 65536 = dg n 1 ∧ uu n / 4294967296 % 65536 = dg n 2 ∧ uu n / 281474976710656 % 65536 = dg n 3 := hid_lo n
theorem hi_dg (n : Int) (h : I64 n) : ∀ i, 4 ≤ i → i < 10 → dg n i = (bif decide (n < 0) then 65535 else 0) := by
  intro i h1 h2
  unfold I64 at h
  have hc : i = 4 ∨ i = 5 ∨ i = 6 ∨ i = 7 ∨ i = 8 ∨ i = 9 := by omega
  by_cases hx : n < 0 <;> simp only [hx, decide_true, decide_false, cond_true, cond_false] <;> rcases hc with rfl | rfl | rfl | rfl | rfl | rfl
  all_goals first | rw [dg4] | rw [dg5] | rw [dg6] | rw [dg7] | rw [dg8] | rw [dg9]
  all_goals omega
set_option maxRecDepth 20000 in
set_option maxHeartbeats 4000000 in
theorem OfInt_core (n : Int) (b : Bool) (hb : decide (n < 0) = b) (hd : ∀ i, 4 ≤ i → i < 10 → dg n i = (bif b then 65535 else 0)) (w : World) :
    Calls Tryz.prog 152 #[.int .i64 n] w fun e w' => e = .returned (longV n) ∧ Ext w w' := by
  obtain ⟨y1, y2⟩ := uu_u n
  have e1 := u64_wrap n
  obtain ⟨g0, g1, g2, g3⟩ := uu_dg n
  have a4 := (wa16 (uu n) (uu_u _)).trans g0
  have a5 := (wa16 (uu n / 65536) (div_u (uu_u _) (by decide))).trans g1
  have a6 := (wa16 (uu n / 4294967296) (div_u (uu_u _) (by decide))).trans g2
  have a7 := (wa16 (uu n / 281474976710656) (div_u (uu_u _) (by decide))).trans g3
  have HD := Lib.hid hd
  clear hd g0 g1 g2 g3
  cases b
  all_goals
    go_enter Tryz.func152, Tryz.ntmps152
    go_wp2
    refine wp_loop_rounds 11 ?_
    iterate 10
      rw [rounds_succ]
      go_wp2_with fail
    rw [rounds_succ]
    go_wp2_with fail
    refine bodyPost_ret (v := longV n) ?_ rfl ⟨rfl, by (repeat' (first | exact Ext.refl _ | assumption | apply Ext.allocR | apply Ext.drewR | apply Ext.drewNR | (refine Ext.trans' ?_ (by assumption))))⟩
    unfold longV longA
    rw [HD.out 4 (by decide) (by decide), HD.out 5 (by decide) (by decide), HD.out 6 (by decide) (by decide), HD.out 7 (by decide) (by decide), HD.out 8 (by decide) (by decide), HD.out 9 (by decide) (by decide)]
    simp [results, Tryz.results152, go_sem]
theorem OfInt_c (n : Int) (h : I64 n) (w : World) :
    Calls Tryz.prog 152 #[.int .i64 n] w fun e w' => e = .returned (longV n) ∧ Ext w w' := OfInt_core n _ rfl (hi_dg n h) w
end Go.Proofs.YtfhdjekpdifajaaGreat
namespace Go.Proofs.YtfhdjekpdifajaaGreat
set_option linter.unusedVariables false
open Go.RowKit
theorem fill10 (s : Nat → Int) : fillA s 10 10 = #[.int .i64 (s 0), .int .i64 (s 1), .int .i64 (s 2), .int .i64 (s 3), .int .i64 (s 4), .int .i64 (s 5), .int .i64 (s 6), .int .i64 (s 7), .int .i64 (s 8), .int .i64 (s 9)] := by
  apply Array.ext
  · simp [fillA]
  · intro i h1 h2
    have hi : i < 10 := by simpa [fillA] using h1
    have hc : i = 0 ∨ i = 1 ∨ i = 2 ∨ i = 3 ∨ i = 4 ∨ i = 5 ∨ i = 6 ∨ i = 7 ∨ i = 8 ∨ i = 9 := by omega
    rcases hc with rfl | rfl | rfl | rfl | rfl | rfl | rfl | rfl | rfl | rfl <;> simp [fillA]
set_option maxRecDepth 20000 in
set_option maxHeartbeats 8000000 in
theorem Plus_core (a b s c : Nat → Int) (ha : ∀ i, i < 10 → 0 ≤ a i ∧ a i ≤ 65535) (hb : ∀ i, i < 10 → 0 ≤ b i ∧ b i ≤ 65535) (hc : ∀ i, i < 10 → 0 ≤ c i ∧ c i ≤ 1) (h0 : c 0 = 0)
    (hs : ∀ i, i < 10 → (a i + b i + c i) % 65536 = s i) (hn : ∀ i, i < 10 → (a i + b i + c i) / 65536 = c (i + 1)) (w : World) :
    Calls Tryz.prog 151 #[longA a, longA b] w fun e w' => e = .returned (longA s) ∧ Ext w w' := by
  obtain ⟨a0l, a0h⟩ := ha 0 (by decide)
  obtain ⟨b0l, b0h⟩ := hb 0 (by decide)
  obtain ⟨c0l, c0h⟩ := hc 0 (by decide)
  have s0 := hs 0 (by decide)
  have n0 := hn 0 (by decide)
  obtain ⟨a1l, a1h⟩ := ha 1 (by decide)
  obtain ⟨b1l, b1h⟩ := hb 1 (by decide)
  obtain ⟨c1l, c1h⟩ := hc 1 (by decide)
  have s1 := hs 1 (by decide)
  have n1 := hn 1 (by decide)
  obtain ⟨a2l, a2h⟩ := ha 2 (by decide)
  obtain ⟨b2l, b2h⟩ := hb 2 (by decide)
  obtain ⟨c2l, c2h⟩ := hc 2 (by decide)
  have s2 := hs 2 (by decide)
  have n2 := hn 2 (by decide)
  obtain ⟨a3l, a3h⟩ := ha 3 (by decide)
  obtain ⟨b3l, b3h⟩ := hb 3 (by decide)
  obtain ⟨c3l, c3h⟩ := hc 3 (by decide)
  have s3 := hs 3 (by decide)
  have n3 := hn 3 (by decide)
  obtain ⟨a4l, a4h⟩ := ha 4 (by decide)
  obtain ⟨b4l, b4h⟩ := hb 4 (by decide)
  obtain ⟨c4l, c4h⟩ := hc 4 (by decide)
  have s4 := hs 4 (by decide)
  have n4 := hn 4 (by decide)
  obtain ⟨a5l, a5h⟩ := ha 5 (by decide)
  obtain ⟨b5l, b5h⟩ := hb 5 (by decide)
  obtain ⟨c5l, c5h⟩ := hc 5 (by decide)
  have s5 := hs 5 (by decide)
  have n5 := hn 5 (by decide)
  obtain ⟨a6l, a6h⟩ := ha 6 (by decide)
  obtain ⟨b6l, b6h⟩ := hb 6 (by decide)
  obtain ⟨c6l, c6h⟩ := hc 6 (by decide)
  have s6 := hs 6 (by decide)
  have n6 := hn 6 (by decide)
  obtain ⟨a7l, a7h⟩ := ha 7 (by decide)
  obtain ⟨b7l, b7h⟩ := hb 7 (by decide)
  obtain ⟨c7l, c7h⟩ := hc 7 (by decide)
  have s7 := hs 7 (by decide)
  have n7 := hn 7 (by decide)
  obtain ⟨a8l, a8h⟩ := ha 8 (by decide)
  obtain ⟨b8l, b8h⟩ := hb 8 (by decide)
  obtain ⟨c8l, c8h⟩ := hc 8 (by decide)
  have s8 := hs 8 (by decide)
  have n8 := hn 8 (by decide)
  obtain ⟨a9l, a9h⟩ := ha 9 (by decide)
  obtain ⟨b9l, b9h⟩ := hb 9 (by decide)
  obtain ⟨c9l, c9h⟩ := hc 9 (by decide)
  have s9 := hs 9 (by decide)
  have n9 := hn 9 (by decide)
  rw [h0, Int.add_zero] at s0 n0
  simp only [Nat.reduceAdd] at n0 n1 n2 n3 n4 n5 n6 n7 n8 n9
  unfold longA
  clear ha hb hc hs hn h0 c0l c0h
  generalize a 0 = A0 at *
  generalize b 0 = B0 at *
  generalize s 0 = S0 at *
  generalize a 1 = A1 at *
  generalize b 1 = B1 at *
  generalize s 1 = S1 at *
  generalize a 2 = A2 at *
  generalize b 2 = B2 at *
  generalize s 2 = S2 at *
  generalize a 3 = A3 at *
  generalize b 3 = B3 at *
  generalize s 3 = S3 at *
  generalize a 4 = A4 at *
  generalize b 4 = B4 at *
  generalize s 4 = S4 at *
  generalize a 5 = A5 at *
  generalize b 5 = B5 at *
  generalize s 5 = S5 at *
  generalize a 6 = A6 at *
  generalize b 6 = B6 at *
  generalize s 6 = S6 at *
  generalize a 7 = A7 at *
  generalize b 7 = B7 at *
  generalize s 7 = S7 at *
  generalize a 8 = A8 at *
  generalize b 8 = B8 at *
  generalize s 8 = S8 at *
  generalize a 9 = A9 at *
  generalize b 9 = B9 at *
  generalize s 9 = S9 at *
  generalize c 1 = C1 at *
  generalize c 2 = C2 at *
  generalize c 3 = C3 at *
  generalize c 4 = C4 at *
  generalize c 5 = C5 at *
  generalize c 6 = C6 at *
  generalize c 7 = C7 at *
  generalize c 8 = C8 at *
  generalize c 9 = C9 at *
  generalize c 10 = C10 at *
  go_enter Tryz.func151, Tryz.ntmps151
  go_wp2_with fail
  refine wp_loop_rounds 11 ?_
  iterate 10
    rw [rounds_succ]
    go_wp2_with fail
    go_region
    go_wp2_with fail
  rw [rounds_succ]
  go_wp2_with fail
  refine bodyPost_ret (v := .agg #[.int .i64 S0, .int .i64 S1, .int .i64 S2, .int .i64 S3, .int .i64 S4, .int .i64 S5, .int .i64 S6, .int .i64 S7, .int .i64 S8, .int .i64 S9]) ?_ rfl ⟨rfl, by (repeat' (first | exact Ext.refl _ | assumption | apply Ext.allocR | apply Ext.drewR | apply Ext.drewNR | (refine Ext.trans' ?_ (by assumption))))⟩
  simp [results, Tryz.results151, go_sem]
/-- The carry of a sum. -/
def cr (x y : Int) (i : Nat) : Int := (x % (65536 ^ i : Int) + y % (65536 ^ i : Int)) / (65536 ^ i : Int)
theorem pw_pos (i : Nat) : 0 < (65536 ^ i : Int) := Int.pow_pos (by decide)
theorem cr_bd (x y : Int) (i : Nat) : 0 ≤ cr x y i ∧ cr x y i ≤ 1 := by
  have hp := pw_pos i
  unfold cr
  generalize (65536 ^ i : Int) = M at *
  have h1 := Int.emod_nonneg x (show M ≠ 0 by omega)
  have h2 := Int.emod_lt_of_pos x hp
  have h3 := Int.emod_nonneg y (show M ≠ 0 by omega)
  have h4 := Int.emod_lt_of_pos y hp
  refine ⟨Int.ediv_nonneg (by omega) (by omega), ?_⟩
  have : (x % M + y % M) / M < 2 := Int.ediv_lt_of_lt_mul hp (by omega)
  omega
theorem mod_mul' (x M : Int) (hM : 0 < M) : x % (M * 65536) = x % M + M * (x / M % 65536) := by
  have h1 := Int.emod_add_mul_ediv x M
  have h2 := Int.emod_add_mul_ediv (x / M) 65536
  have h3 : x / M / 65536 = x / (M * 65536) := by rw [Int.ediv_ediv_of_nonneg (by omega)]
  have h4 := Int.emod_add_mul_ediv x (M * 65536)
  rw [← h3] at h4
  have h5 : M * 65536 * (x / M / 65536) = M * (65536 * (x / M / 65536)) := Int.mul_assoc _ _ _
  have h6 : M * (x / M) = M * (x / M % 65536) + M * (65536 * (x / M / 65536)) := by rw [← Int.mul_add, h2]
  omega
theorem plus_step (x y : Int) (i : Nat) : (dg x i + dg y i + cr x y i) % 65536 = dg (x + y) i ∧ (dg x i + dg y i + cr x y i) / 65536 = cr x y (i + 1) := by
  have hp := pw_pos i
  unfold dg cr
  rw [Int.pow_succ]
  generalize (65536 ^ i : Int) = M at *
  rw [mod_mul' x M hp, mod_mul' y M hp]
  have ex := Int.emod_add_mul_ediv x M
  have ey := Int.emod_add_mul_ediv y M
  have hd : x + y = (x % M + y % M) + M * (x / M + y / M) := by rw [Int.mul_add]; omega
  constructor
  · rw [hd, Int.add_mul_ediv_left _ _ (show M ≠ 0 by omega)]
    generalize (x % M + y % M) / M = c
    omega
  · have e1 : x % M + M * (x / M % 65536) + (y % M + M * (y / M % 65536)) = (x % M + y % M) + M * (x / M % 65536 + y / M % 65536) := by rw [Int.mul_add]; omega
    rw [e1, ← Int.ediv_ediv_of_nonneg (by omega), Int.add_mul_ediv_left _ _ (show M ≠ 0 by omega)]
    congr 1
    omega
theorem cr0 (x y : Int) : cr x y 0 = 0 := by
  unfold cr
  rw [show ((65536 : Int) ^ 0) = 1 from rfl]
  omega
theorem LPlus_c (x y : Int) (w : World) : Calls Tryz.prog 151 #[longV x, longV y] w fun e w' => e = .returned (longV (x + y)) ∧ Ext w w' :=
  Plus_core (dg x) (dg y) (dg (x + y)) (cr x y) (fun i _ => dg_bd x i) (fun i _ => dg_bd y i) (fun i _ => cr_bd x y i) (cr0 x y) (fun i _ => (plus_step x y i).1) (fun i _ => (plus_step x y i).2) w
end Go.Proofs.YtfhdjekpdifajaaGreat
