/- InnerTells: of two sketches of a config, fed raw updates, the product is what the document says. No condition: every input. -/
import Derived.Test.YteoblkcbemeamaaL9
import Derived.Test.YteoblkcbemeamaaL7
import Derived.Test.YteoblkcbemeamaaL10
import Derived.Test.YteoblkcbemeamaaL3
import Derived.Test.YteoblkcbemeamaaL11

/- gaugerref11.Inner, walked. -/
namespace Go.Proofs.Yteoblkcbemeamaa
set_option linter.unusedVariables false
open Go.RowKit
theorem below_sub {n best : Int} (hn : W128 n) (hb : W128 best) : decide (32768 ≤ dg (n + -best) 9) = decide (n < best) := by
  unfold W128 at hn hb
  have e : dg (n + -best) 9 = (n + -best) / 22300745198530623141535718272648361505980416 % 65536 := dg9 _
  rw [e]
  by_cases h : n < best
  · rw [decide_eq_true h, decide_eq_true (by omega)]
  · rw [decide_eq_false h, decide_eq_false (by omega)]
theorem LLess_c {n best : Int} (hn : W128 n) (hb : W128 best) (w : World) :
    Calls Try.prog 48 #[longV (n + -best)] w fun e w' => e = .returned (.bool (decide (n < best))) ∧ Ext w w' := by
  have hd := dg_bd (n + -best) 9
  have := Below_c (dg (n + -best)) hd.1 hd.2 w
  rw [below_sub hn hb] at this
  exact this
set_option maxRecDepth 20000 in
set_option maxHeartbeats 8000000 in
theorem RInner_mode (s s2 : Nat) (G G2 : Gr) (C : Cfg) (lv : Int) (R W : Nat) (l m : List Int) (w : World) (h : RSAt w s G C lv R W l) (h2 : RSAt w s2 G2 C lv R W m) (hm : C.mode ≠ 1) :
    Calls Try.prog 13 #[.pointer (some ⟨s, 0, none⟩), .pointer (some ⟨s2, 0, none⟩)] w fun e w' => e = .returned (.tuple #[.agg #[.int .i64 0, .int .u64 0], .int .i64 3]) ∧ Ext w w' := by
  have hm' : (C.mode != 1) = true := by simpa using hm
  obtain ⟨w0, hw0⟩ : ∃ w0, w.alloc (.cells #[.int .i64 0, .int .u64 0] 40) = w0 := ⟨_, rfl⟩
  have hz0 : w0.heap[w.heap.size]? = some (.cells #[.int .i64 0, .int .u64 0] 40 (0, 0)) := by rw [← hw0]; exact heap_at _ _ rfl
  have hE0 : Ext w w0 := by rw [← hw0]; exact Ext.alloc' _ _
  have hex := (h.ext hE0).ex
  have hex2 := (h2.ext hE0).ex
  have ls := lt_of hex
  have c0 := (cell_of hex 0).trans rfl
  have c1 := (cell_of hex 1).trans rfl
  have c2 := (cell_of hex 2).trans rfl
  have c3 := (cell_of hex 3).trans rfl
  have c4 := (cell_of hex 4).trans rfl
  have c5 := (cell_of hex 5).trans rfl
  have ls2 := lt_of hex2
  have d0 := (cell_of hex2 0).trans rfl
  have d1 := (cell_of hex2 1).trans rfl
  have d2 := (cell_of hex2 2).trans rfl
  have d3 := (cell_of hex2 3).trans rfl
  have d4 := (cell_of hex2 4).trans rfl
  have d5 := (cell_of hex2 5).trans rfl
  have p0 := (cell_of hz0 0).trans rfl
  have p1 := (cell_of hz0 1).trans rfl
  have f0 := frozen_of hz0 0
  have f1 := frozen_of hz0 1
  have pl := lt_of hz0
  clear hex hex2 h h2 hm hz0
  go_enter Try.func13, Try.ntmps13
  go_upto_region 1 with (fail)
  try rw [hw0]
  go_wp2_with fail
  have hC0 := af_drew w0
  refine pi_start (fun w' => ∃ z : After w0, w' = z.w) [] (by kernel_rfl) ?_
  refine pi_t 0 rfl (by kernel_rfl) (by kernel_rfl) (fun _ _ _ _ h => h) (fun K hK => ?_)
  go_big_quiet_op
  refine hK _ ?_
  clear hK K
  refine pi_t 1 rfl (by kernel_rfl) (by kernel_rfl) (fun _ _ _ _ h => h) (fun K hK => ?_)
  go_big_quiet_op
  refine hK _ ?_
  clear hK K
  refine pi_t 2 rfl (by kernel_rfl) (by kernel_rfl) (fun _ _ _ _ h => h) (fun K hK => ?_)
  go_big_quiet_op
  refine hK _ ?_
  clear hK K
  refine pi_t 4 rfl (by kernel_rfl) (by kernel_rfl) (fun _ _ _ _ h => h) (fun K hK => ?_)
  go_big_quiet_op
  refine hK _ ?_
  clear hK K
  refine pi_t 5 rfl (by kernel_rfl) (by kernel_rfl) (fun _ _ _ _ h => h) (fun K hK => ?_)
  go_big_quiet_op
  refine hK _ ?_
  clear hK K
  refine pi_t 6 rfl (by kernel_rfl) (by kernel_rfl) (fun _ _ _ _ h => h) (fun K hK => ?_)
  go_big_quiet_op
  refine hK _ ?_
  clear hK K
  refine pi_c 3 (by assumption) rfl (by kernel_rfl) (by kernel_rfl) (fun _ _ _ _ h => h) (fun K hK => ?_)
  go_big_quiet_op
  refine hK _ ?_
  clear hK K
  refine pi_c 7 (by assumption) rfl (by kernel_rfl) (by kernel_rfl) (fun _ _ _ _ h => h) (fun K hK => ?_)
  go_big_quiet_op
  refine hK _ ?_
  clear hK K
  refine pi_t 8 rfl (by kernel_rfl) (by kernel_rfl) (fun _ _ _ _ h => h) (fun K hK => ?_)
  go_big_quiet_op
  refine hK _ ?_
  clear hK K
  refine pi_t 9 rfl (by kernel_rfl) (by kernel_rfl) (fun _ _ _ _ h => h) (fun K hK => ?_)
  go_big_quiet_op
  refine hK _ ?_
  clear hK K
  refine pi_t 10 rfl (by kernel_rfl) (by kernel_rfl) (fun _ _ _ _ h => h) (fun K hK => ?_)
  go_big_quiet_op
  refine hK _ ?_
  clear hK K
  refine pi_t 11 rfl (by kernel_rfl) (by kernel_rfl) (fun _ _ _ _ h => h) (fun K hK => ?_)
  go_big_quiet_op
  refine hK _ ?_
  clear hK K
  refine pi_t 12 rfl (by kernel_rfl) (by kernel_rfl) (fun _ _ _ _ h => h) (fun K hK => ?_)
  go_big_quiet_op
  refine hK _ ?_
  clear hK K
  refine pi_t 14 rfl (by kernel_rfl) (by kernel_rfl) (fun _ _ _ _ h => h) (fun K hK => ?_)
  go_big_quiet_op
  refine hK _ ?_
  clear hK K
  refine pi_t 15 rfl (by kernel_rfl) (by kernel_rfl) (fun _ _ _ _ h => h) (fun K hK => ?_)
  go_big_quiet_op
  refine hK _ ?_
  clear hK K
  refine pi_t 16 rfl (by kernel_rfl) (by kernel_rfl) (fun _ _ _ _ h => h) (fun K hK => ?_)
  go_big_quiet_op
  refine hK _ ?_
  clear hK K
  refine pi_c 13 (by assumption) rfl (by kernel_rfl) (by kernel_rfl) (fun _ _ _ _ h => h) (fun K hK => ?_)
  go_big_quiet_op
  refine hK _ ?_
  clear hK K
  refine pi_c 17 (by assumption) rfl (by kernel_rfl) (by kernel_rfl) (fun _ _ _ _ h => h) (fun K hK => ?_)
  go_big_quiet_op
  refine hK _ ?_
  clear hK K
  refine pi_t 18 rfl (by kernel_rfl) (by kernel_rfl) (fun _ _ _ _ h => h) (fun K hK => ?_)
  go_big_quiet_op
  refine hK _ ?_
  clear hK K
  refine pi_t 19 rfl (by kernel_rfl) (by kernel_rfl) (fun _ _ _ _ h => h) (fun K hK => ?_)
  go_big_quiet_op
  refine hK _ ?_
  clear hK K
  refine pi_end (by kernel_rfl) ?_
  go_wp2
  refine bodyPost_ret (v := .tuple #[.agg #[.int .i64 0, .int .u64 0], .int .i64 3]) (by simp [results, Try.results13, go_sem, *]) rfl ⟨rfl, ?_⟩
  exact (hE0.drewR.setR (p := ⟨w.heap.size, 0, none⟩) (Nat.le_refl _) _).setR (p := ⟨w.heap.size, 1, none⟩) (Nat.le_refl _) _
set_option maxRecDepth 20000 in
set_option maxHeartbeats 8000000 in
theorem RInner_c (s s2 : Nat) (G G2 : Gr) (C : Cfg) (lv : Int) (R W : Nat) (l m : List Int) (w : World) (h : RSAt w s G C lv R W l) (h2 : RSAt w s2 G2 C lv R W m) (hm : C.mode = 1) :
    Calls Try.prog 13 #[.pointer (some ⟨s, 0, none⟩), .pointer (some ⟨s2, 0, none⟩)] w fun e w' => e = .returned (innV (innF l m W R)) ∧ Ext w w' := by
  have hm' : (C.mode != 1) = false := by simp [hm]
  obtain ⟨w0, hw0⟩ : ∃ w0, w.alloc (.cells #[.int .i64 0, .int .u64 0] 40) = w0 := ⟨_, rfl⟩
  have hz0 : w0.heap[w.heap.size]? = some (.cells #[.int .i64 0, .int .u64 0] 40 (0, 0)) := by rw [← hw0]; exact heap_at _ _ rfl
  have hE0 : Ext w w0 := by rw [← hw0]; exact Ext.alloc' _ _
  have H := Lib.hid (h.ext hE0)
  have H2 := Lib.hid (h2.ext hE0)
  have HZ0 := Lib.hid hz0
  have hex := H.out.ex
  have hex2 := H2.out.ex
  have ls := lt_of hex
  have c0 := (cell_of hex 0).trans rfl
  have c1 := (cell_of hex 1).trans rfl
  have c2 := (cell_of hex 2).trans rfl
  have c3 := (cell_of hex 3).trans rfl
  have c4 := (cell_of hex 4).trans rfl
  have c5 := (cell_of hex 5).trans rfl
  have ls2 := lt_of hex2
  have d0 := (cell_of hex2 0).trans rfl
  have d1 := (cell_of hex2 1).trans rfl
  have d2 := (cell_of hex2 2).trans rfl
  have d3 := (cell_of hex2 3).trans rfl
  have d4 := (cell_of hex2 4).trans rfl
  have d5 := (cell_of hex2 5).trans rfl
  have hW8 := h.g.w2
  have hR8 := h.g.r2
  clear hex hex2 h h2 hm hz0
  go_enter Try.func13, Try.ntmps13
  go_upto_region 1 with (fail)
  try rw [hw0]
  clear hw0
  go_wp2_with fail
  have hC0 := af_drew w0
  refine pi_start (fun w' => ∃ z : After w0, w' = z.w) [] (by kernel_rfl) ?_
  refine pi_t 0 rfl (by kernel_rfl) (by kernel_rfl) (fun _ _ _ _ h => h) (fun K hK => ?_)
  go_big_quiet_op
  refine hK _ ?_
  clear hK K
  refine pi_t 1 rfl (by kernel_rfl) (by kernel_rfl) (fun _ _ _ _ h => h) (fun K hK => ?_)
  go_big_quiet_op
  refine hK _ ?_
  clear hK K
  refine pi_t 2 rfl (by kernel_rfl) (by kernel_rfl) (fun _ _ _ _ h => h) (fun K hK => ?_)
  go_big_quiet_op
  refine hK _ ?_
  clear hK K
  refine pi_t 4 rfl (by kernel_rfl) (by kernel_rfl) (fun _ _ _ _ h => h) (fun K hK => ?_)
  go_big_quiet_op
  refine hK _ ?_
  clear hK K
  refine pi_t 5 rfl (by kernel_rfl) (by kernel_rfl) (fun _ _ _ _ h => h) (fun K hK => ?_)
  go_big_quiet_op
  refine hK _ ?_
  clear hK K
  refine pi_t 6 rfl (by kernel_rfl) (by kernel_rfl) (fun _ _ _ _ h => h) (fun K hK => ?_)
  go_big_quiet_op
  refine hK _ ?_
  clear hK K
  refine pi_c 3 (by assumption) rfl (by kernel_rfl) (by kernel_rfl) (fun _ _ _ _ h => h) (fun K hK => ?_)
  go_big_quiet_op
  refine hK _ ?_
  clear hK K
  refine pi_c 7 (by assumption) rfl (by kernel_rfl) (by kernel_rfl) (fun _ _ _ _ h => h) (fun K hK => ?_)
  go_big_quiet_op
  refine hK _ ?_
  clear hK K
  refine pi_t 8 rfl (by kernel_rfl) (by kernel_rfl) (fun _ _ _ _ h => h) (fun K hK => ?_)
  go_big_quiet_op
  refine hK _ ?_
  clear hK K
  refine pi_t 9 rfl (by kernel_rfl) (by kernel_rfl) (fun _ _ _ _ h => h) (fun K hK => ?_)
  go_big_quiet_op
  refine hK _ ?_
  clear hK K
  refine pi_t 10 rfl (by kernel_rfl) (by kernel_rfl) (fun _ _ _ _ h => h) (fun K hK => ?_)
  go_big_quiet_op
  refine hK _ ?_
  clear hK K
  refine pi_t 11 rfl (by kernel_rfl) (by kernel_rfl) (fun _ _ _ _ h => h) (fun K hK => ?_)
  go_big_quiet_op
  refine hK _ ?_
  clear hK K
  refine pi_t 12 rfl (by kernel_rfl) (by kernel_rfl) (fun _ _ _ _ h => h) (fun K hK => ?_)
  go_big_quiet_op
  refine hK _ ?_
  clear hK K
  refine pi_t 14 rfl (by kernel_rfl) (by kernel_rfl) (fun _ _ _ _ h => h) (fun K hK => ?_)
  go_big_quiet_op
  refine hK _ ?_
  clear hK K
  refine pi_t 15 rfl (by kernel_rfl) (by kernel_rfl) (fun _ _ _ _ h => h) (fun K hK => ?_)
  go_big_quiet_op
  refine hK _ ?_
  clear hK K
  refine pi_t 16 rfl (by kernel_rfl) (by kernel_rfl) (fun _ _ _ _ h => h) (fun K hK => ?_)
  go_big_quiet_op
  refine hK _ ?_
  clear hK K
  refine pi_c 13 (by assumption) rfl (by kernel_rfl) (by kernel_rfl) (fun _ _ _ _ h => h) (fun K hK => ?_)
  go_big_quiet_op
  refine hK _ ?_
  clear hK K
  refine pi_c 17 (by assumption) rfl (by kernel_rfl) (by kernel_rfl) (fun _ _ _ _ h => h) (fun K hK => ?_)
  go_big_quiet_op
  refine hK _ ?_
  clear hK K
  refine pi_t 18 rfl (by kernel_rfl) (by kernel_rfl) (fun _ _ _ _ h => h) (fun K hK => ?_)
  go_big_quiet_op
  refine hK _ ?_
  clear hK K
  refine pi_t 19 rfl (by kernel_rfl) (by kernel_rfl) (fun _ _ _ _ h => h) (fun K hK => ?_)
  go_big_quiet_op
  refine hK _ ?_
  clear hK K
  refine pi_end (by kernel_rfl) ?_
  go_wp2_with fail
  clear c0 c1 c2 c3 c4 c5 d0 d1 d2 d3 d4 d5 ls ls2
  go_loopw [7] (fun u wr => ∃ (r : Nat) (best : Int), r ≤ R ∧ u = .int .i64 r ∧ innF l m W r = some best ∧ Ext w0 wr ∧ wr.heap[w0.heap.size]? = some (.cells #[.int .i64 (hi best), .int .u64 (lo best)] 40 (0, 0))) (fun u _ => R - (intOf u).toNat)
  case atStart => exact ⟨0, 0, Nat.zero_le _, rfl, rfl, (Ext.refl w0).drewR.allocR _, heap_at _ _ rfl⟩
  case round =>
    obtain ⟨r, best, hr, rfl, hin, hE, hg9⟩ := hrel
    have hs := H.out.ext hE
    have hs2 := H2.out.ext hE
    have ls := hs.lts
    have c6 := (cell_of hs.ex 6).trans rfl
    obtain ⟨capg, cg, hcapg⟩ := hs.g.cg
    have lg := hs.g.ltg
    have lm := hs.g.ltm
    have ls2 := hs2.lts
    have d6 := (cell_of hs2.ex 6).trans rfl
    obtain ⟨capg2, cg2, hcapg2⟩ := hs2.g.cg
    have lg2 := hs2.g.ltg
    have lm2 := hs2.g.ltm
    by_cases hgo : r < R
    · have cm := hs.g.cm hgo
      have cm2 := hs2.g.cm hgo
      obtain ⟨dt, hdt⟩ : ∃ dt, dotF (rowP l W r) (rowP m W r) W = dt := ⟨_, rfl⟩
      obtain ⟨rh, rl, ok, hdv, hok1, hok0⟩ : ∃ (rh rl : Int) (ok : Bool), dotV dt = .tuple #[.agg #[.int .i64 rh, .int .u64 rl], .bool ok] ∧ (ok = true → ∃ n, dt = some n ∧ rh = hi n ∧ rl = lo n) ∧ (ok = false → dt = none) := by
        cases dt with
        | none => exact ⟨0, 0, false, rfl, (fun h => by cases h), (fun _ => rfl)⟩
        | some n => exact ⟨hi n, lo n, true, rfl, (fun _ => ⟨n, rfl, rfl, rfl⟩), (fun h => by cases h)⟩
      have hdot : ∀ w' : World, Ext wr w' → Calls Try.prog 47 #[.slice (some ⟨G.r r, 0, none⟩) W (G.c r), .slice (some ⟨G2.r r, 0, none⟩) W (G2.c r)] w' fun e w'' => e = .returned (.tuple #[.agg #[.int .i64 rh, .int .u64 rl], .bool ok]) ∧ Ext w' w'' := by
        intro w' hE'
        have := RefDot_c (rowP l W r) (rowP m W r) _ _ w' (rowP_all hs.fit W r) (rowP_all hs2.fit W r) (by rw [rowP_len, rowP_len]) (by rw [rowP_len]; omega) ((hs.ext hE').g.ints hgo) ((hs2.ext hE').g.ints hgo)
        rw [rowP_len, hdt, hdv] at this
        exact this
      have HDOT := Lib.hid hdot
      have HDT := Lib.hid hdt
      have HOK1 := Lib.hid hok1
      have HOK0 := Lib.hid hok0
      have HIN := Lib.hid hin
      have HG9 := Lib.hid hg9
      clear hdot hdv hok1 hok0 hdt hs hs2 hin hg9
      go_upto_region 9 with (fail)
      go_cut [8, 9] (fun sA sB wx => ∃ z : Nat, sA = .pointer (some ⟨z, 0, none⟩) ∧ sB = .bool ok ∧ wx.heap[z]? = some (.cells #[.int .i64 rh, .int .u64 rl] 40 (0, 0)) ∧ Ext wr wx ∧ wr.heap.size ≤ z)
      case first =>
        have hC0 := af_drew wr
        refine pi_start (fun w' => ∃ x : After wr, w' = x.w) [] (by kernel_rfl) ?_
        refine pi_t 0 rfl (by kernel_rfl) (by kernel_rfl) (fun _ _ _ _ h => h) (fun K hK => ?_)
        go_big_quiet_op
        refine hK _ ?_
        clear hK K
        refine pi_t 1 rfl (by kernel_rfl) (by kernel_rfl) (fun _ _ _ _ h => h) (fun K hK => ?_)
        go_big_quiet_op
        refine hK _ ?_
        clear hK K
        refine pi_t 2 rfl (by kernel_rfl) (by kernel_rfl) (fun _ _ _ _ h => h) (fun K hK => ?_)
        go_big_quiet_op
        refine hK _ ?_
        clear hK K
        refine pi_t 7 rfl (by kernel_rfl) (by kernel_rfl) (fun _ _ _ _ h => h) (fun K hK => ?_)
        go_big_quiet_op
        refine hK _ ?_
        clear hK K
        refine pi_t 10 rfl (by kernel_rfl) (by kernel_rfl) (fun _ _ _ _ h => h) (fun K hK => ?_)
        go_big_quiet_op
        refine hK _ ?_
        clear hK K
        refine pi_t 11 rfl (by kernel_rfl) (by kernel_rfl) (fun _ _ _ _ h => h) (fun K hK => ?_)
        go_big_quiet_op
        refine hK _ ?_
        clear hK K
        refine pi_t 12 rfl (by kernel_rfl) (by kernel_rfl) (fun _ _ _ _ h => h) (fun K hK => ?_)
        go_big_quiet_op
        refine hK _ ?_
        clear hK K
        refine pi_t 17 rfl (by kernel_rfl) (by kernel_rfl) (fun _ _ _ _ h => h) (fun K hK => ?_)
        go_big_quiet_op
        refine hK _ ?_
        clear hK K
        refine pi_c 3 (by assumption) rfl (by kernel_rfl) (by kernel_rfl) (fun _ _ _ _ h => h) (fun K hK => ?_)
        go_big_quiet_op
        refine hK _ ?_
        clear hK K
        refine pi_t 4 rfl (by kernel_rfl) (by kernel_rfl) (fun _ _ _ _ h => h) (fun K hK => ?_)
        go_big_quiet_op
        refine hK _ ?_
        clear hK K
        refine pi_t 5 rfl (by kernel_rfl) (by kernel_rfl) (fun _ _ _ _ h => h) (fun K hK => ?_)
        go_big_quiet_op
        refine hK _ ?_
        clear hK K
        refine pi_c 6 (by assumption) rfl (by kernel_rfl) (by kernel_rfl) (fun _ _ _ _ h => h) (fun K hK => ?_)
        go_big_quiet_op
        refine hK _ ?_
        clear hK K
        refine pi_t 8 rfl (by kernel_rfl) (by kernel_rfl) (fun _ _ _ _ h => h) (fun K hK => ?_)
        go_big_quiet_op
        refine hK _ ?_
        clear hK K
        refine pi_c 9 (by assumption) rfl (by kernel_rfl) (by kernel_rfl) (fun _ _ _ _ h => h) (fun K hK => ?_)
        go_big_quiet_op
        refine hK _ ?_
        clear hK K
        refine pi_c 13 (by assumption) rfl (by kernel_rfl) (by kernel_rfl) (fun _ _ _ _ h => h) (fun K hK => ?_)
        go_big_quiet_op
        refine hK _ ?_
        clear hK K
        refine pi_t 14 rfl (by kernel_rfl) (by kernel_rfl) (fun _ _ _ _ h => h) (fun K hK => ?_)
        go_big_quiet_op
        refine hK _ ?_
        clear hK K
        refine pi_t 15 rfl (by kernel_rfl) (by kernel_rfl) (fun _ _ _ _ h => h) (fun K hK => ?_)
        go_big_quiet_op
        refine hK _ ?_
        clear hK K
        refine pi_c 16 (by assumption) rfl (by kernel_rfl) (by kernel_rfl) (fun _ _ _ _ h => h) (fun K hK => ?_)
        go_big_quiet_op
        refine hK _ ?_
        clear hK K
        refine pi_t 18 rfl (by kernel_rfl) (by kernel_rfl) (fun _ _ _ _ h => h) (fun K hK => ?_)
        go_big_quiet_op
        refine hK _ ?_
        clear hK K
        refine pi_c 19 (by assumption) rfl (by kernel_rfl) (by kernel_rfl) (fun _ _ _ _ h => h) (fun K hK => ?_)
        go_big_quiet_op
        refine hK _ ?_
        clear hK K
        refine pi_b 20 24 rfl rfl (by kernel_rfl) (fun K hK => ?_) (fun K hK => ?_)
        · skip
          go_wp2_with (go_at_call 47; refine (HDOT.out _ (by (repeat' (first | exact Ext.refl _ | assumption | apply Ext.allocR | apply Ext.drewR | apply Ext.drewNR | (refine Ext.trans' ?_ (by assumption)))))).mono ?_; rintro e wa ⟨rfl, hxa⟩)
          refine hK _ _ (fun _ h => af_step h hxa) ?_
          clear hK K
          have hEa : Ext wr wa := Ext.trans' (Below.drew (Ext.refl wr)) hxa
          refine pi_t 21 rfl (by kernel_rfl) (by kernel_rfl) (fun _ _ _ _ h => h) (fun K hK => ?_)
          go_big_quiet_op
          refine hK _ ?_
          clear hK K
          refine pi_t 22 rfl (by kernel_rfl) (by kernel_rfl) (fun _ _ _ _ h => h) (fun K hK => ?_)
          go_big_quiet_op
          refine hK _ ?_
          clear hK K
          refine pi_t 23 rfl (by kernel_rfl) (by kernel_rfl) (fun _ _ _ _ h => h) (fun K hK => ?_)
          go_big_quiet_op
          refine hK _ ?_
          clear hK K
          refine pi_l 24 rfl (by kernel_rfl) (fun K hK => ?_)
          go_wp2
          refine hK _ _ (fun _ h => af_step h (Ext.alloc' _ _)) ?_
          clear hK K
          refine pi_l 25 rfl (by kernel_rfl) (fun K hK => ?_)
          go_wp2
          have hsz := hEa.size
          refine hK _ _ (fun _ h => ⟨⟨_, hEa.allocR _⟩, rfl⟩) ?_
          clear hK K
          refine pi_t 26 rfl (by kernel_rfl) (by kernel_rfl) (fun _ _ _ _ h => h) (fun K hK => ?_)
          go_big_quiet_op
          refine hK _ ?_
          clear hK K
          refine pi_end (by kernel_rfl) ?_
          go_wp2_with fail
          go_meet
          exact ⟨_, rfl, rfl, heap_at _ _ rfl, hEa.allocR _, hsz⟩
        · go_wp2
          refine hK _ _ (fun _ h => af_step h (Ext.alloc' _ _)) ?_
          clear hK K
          refine pi_l 20 rfl (by kernel_rfl) (fun K hK => ?_)
          skip
          go_wp2_with (go_at_call 47; refine (HDOT.out _ (by (repeat' (first | exact Ext.refl _ | assumption | apply Ext.allocR | apply Ext.drewR | apply Ext.drewNR | (refine Ext.trans' ?_ (by assumption)))))).mono ?_; rintro e wa ⟨rfl, hxa⟩)
          refine hK _ _ (fun _ h => af_step h hxa) ?_
          clear hK K
          have hEa : Ext wr wa := Ext.trans' (Ext.alloc' wr _) (Ext.trans' (Below.drew (Ext.refl _)) hxa)
          have hbx : wa.heap[wr.heap.size]? = some (.cells #[.int .i64 0, .int .u64 0] 40 (0, 0)) := hxa.keep (heap_at (World.drew wr) _ rfl)
          have p0 := (cell_of hbx 0).trans rfl
          have p1 := (cell_of hbx 1).trans rfl
          have f0 := frozen_of hbx 0
          have f1 := frozen_of hbx 1
          have HBX := Lib.hid hbx
          clear hbx
          refine pi_t 21 rfl (by kernel_rfl) (by kernel_rfl) (fun _ _ _ _ h => h) (fun K hK => ?_)
          go_big_quiet_op
          refine hK _ ?_
          clear hK K
          refine pi_t 22 rfl (by kernel_rfl) (by kernel_rfl) (fun _ _ _ _ h => h) (fun K hK => ?_)
          go_big_quiet_op
          refine hK _ ?_
          clear hK K
          refine pi_t 23 rfl (by kernel_rfl) (by kernel_rfl) (fun _ _ _ _ h => h) (fun K hK => ?_)
          go_big_quiet_op
          refine hK _ ?_
          clear hK K
          refine pi_l 25 rfl (by kernel_rfl) (fun K hK => ?_)
          go_wp2
          refine hK _ _ (fun _ h => ⟨⟨_, (hEa.setR (p := ⟨wr.heap.size, 0, none⟩) (Nat.le_refl _) _).setR (p := ⟨wr.heap.size, 1, none⟩) (Nat.le_refl _) _⟩, rfl⟩) ?_
          clear hK K
          refine pi_t 26 rfl (by kernel_rfl) (by kernel_rfl) (fun _ _ _ _ h => h) (fun K hK => ?_)
          go_big_quiet_op
          refine hK _ ?_
          clear hK K
          refine pi_end (by kernel_rfl) ?_
          go_wp2_with fail
          go_meet
          exact ⟨_, rfl, rfl, set2 HBX.out _ _, (hEa.setR (p := ⟨wr.heap.size, 0, none⟩) (Nat.le_refl _) _).setR (p := ⟨wr.heap.size, 1, none⟩) (Nat.le_refl _) _, Nat.le_refl _⟩
      case rest =>
        obtain ⟨z, rfl, rfl, hz, hEc, hzz⟩ := hcut
        rename World => wd
        have hEx := hE.trans' hEc
        have y0 := (cell_of hz 0).trans rfl
        have y1 := (cell_of hz 1).trans rfl
        have zl := lt_of hz
        have hg9 := hEc.keep HG9.out
        clear c6 cg lg lm d6 cg2 lg2 lm2 cm cm2 ls ls2
        cases ok
        · have hnn : innF l m W (r + 1) = none := by
            have h1 := HOK0.out rfl
            simp only [innF, HIN.out, HDT.out, h1, Option.bind_some, Option.bind_none]
          have hnil := innF_none hnn (n := R) (by omega)
          obtain ⟨p0, p1, f0, f1, hl⟩ := zbox HZ0.out hEx
          have HNIL := Lib.hid hnil
          clear hg9 hnn hnil
          go_wp2_with fail
          refine bodyPost_ret (v := .tuple #[.agg #[.int .i64 0, .int .u64 0], .int .i64 4]) (by simp [results, Try.results13, go_sem, *]) rfl ⟨by rw [HNIL.out]; rfl, ?_⟩
          exact ((hE0.trans' hEx).setR (p := ⟨w.heap.size, 0, none⟩) (Nat.le_refl _) _).setR (p := ⟨w.heap.size, 1, none⟩) (Nat.le_refl _) _
        · obtain ⟨n, rfl, rfl, rfl⟩ := HOK1.out rfl
          have hwn : W128 n := dotF_w HDT.out
          have hwb : W128 best := innF_w HIN.out
          have HN1 := Lib.hid (fun w' => LOf_c n hwn w')
          have HN2 := Lib.hid (fun w' => LOf_c best hwb w')
          have HBL := Lib.hid (fun w' => LLess_c hwn hwb w')
          have a0 := (cell_of hg9 0).trans rfl
          have a1 := (cell_of hg9 1).trans rfl
          have al := lt_of hg9
          have HG9' := Lib.hid hg9
          have HZ := Lib.hid hz
          have hss : innF l m W (r + 1) = some (bif decide (r = 0) || decide (n < best) then n else best) := by
            simp only [innF, HIN.out, HDT.out, Option.bind_some]
          have HSS := Lib.hid hss
          clear hg9 hz hss hwn hwb
          go_wp2_with fail
          have hC0 := af_drew wd
          refine pi_start (fun w' => ∃ z : After wd, w' = z.w) [] (by kernel_rfl) ?_
          refine pi_c 0 (by assumption) rfl (by kernel_rfl) (by kernel_rfl) (fun _ _ _ _ h => h) (fun K hK => ?_)
          go_big_quiet_op
          refine hK _ ?_
          clear hK K
          refine pi_c 2 (by assumption) rfl (by kernel_rfl) (by kernel_rfl) (fun _ _ _ _ h => h) (fun K hK => ?_)
          go_big_quiet_op
          refine hK _ ?_
          clear hK K
          refine pi_l 1 rfl (by kernel_rfl) (fun K hK => ?_)
          go_wp2_with (go_at_call 50; refine (HN1.out _).mono ?_; rintro e wa ⟨rfl, hxa⟩)
          have hEa : Ext wd wa := Ext.trans' (Below.drew (Ext.refl wd)) hxa
          refine hK _ _ (fun _ h => af_step h hxa) ?_
          clear hK K hxa
          refine pi_l 3 rfl (by kernel_rfl) (fun K hK => ?_)
          go_wp2_with (go_at_call 50; refine (HN2.out _).mono ?_; rintro e wb ⟨rfl, hxb⟩)
          have hEb : Ext wd wb := hEa.trans' hxb
          refine hK _ _ (fun _ h => af_step h hxb) ?_
          clear hK K hxb
          refine pi_l 4 rfl (by kernel_rfl) (fun K hK => ?_)
          go_wp2_with (go_at_call 51; refine (LMinus_c best _).mono ?_; rintro e wc ⟨rfl, hxc⟩)
          have hEc2 : Ext wd wc := hEb.trans' hxc
          refine hK _ _ (fun _ h => af_step h hxc) ?_
          clear hK K hxc
          refine pi_l 5 rfl (by kernel_rfl) (fun K hK => ?_)
          go_wp2_with (go_at_call 49; refine (LPlus_c n (-best) _).mono ?_; rintro e we ⟨rfl, hxe⟩)
          have hEe : Ext wd we := hEc2.trans' hxe
          refine hK _ _ (fun _ h => af_step h hxe) ?_
          clear hK K hxe
          refine pi_l 6 rfl (by kernel_rfl) (fun K hK => ?_)
          go_wp2_with (go_at_call 48; refine (HBL.out _).mono ?_; rintro e wf ⟨rfl, hxf⟩)
          have hEf : Ext wd wf := hEe.trans' hxf
          refine hK _ _ (fun _ h => af_step h hxf) ?_
          clear hK K hxf hEa hEb hEc2 hEe
          refine pi_t 7 rfl (by kernel_rfl) (by kernel_rfl) (fun _ _ _ _ h => h) (fun K hK => ?_)
          go_big_quiet_op
          refine hK _ ?_
          clear hK K
          refine pi_end (by kernel_rfl) ?_
          have hg9' := hEf.keep HG9'.out
          have hz' := hEf.keep HZ.out
          clear a0 a1 al y0 y1 zl
          have y0 := (cell_of hz' 0).trans rfl
          have y1 := (cell_of hz' 1).trans rfl
          have zl := lt_of hz'
          have a0 := (cell_of hg9' 0).trans rfl
          have a1 := (cell_of hg9' 1).trans rfl
          have al := lt_of hg9'
          have f0 := frozen_of hg9' 0
          have f1 := frozen_of hg9' 1
          have HG := Lib.hid hg9'
          have hEy := hEx.trans' hEf
          clear hg9' hz'
          by_cases hr0 : r = 0
          · have hr0' : ((r : Int) == 0) = true := by simp [hr0]
            have hdd : (decide (r = 0) || decide (n < best)) = true := by simp [hr0]
            have HSS2 : Hid (innF l m W (r + 1) = some n) := Lib.hid (by rw [HSS.out, hdd]; rfl)
            clear hdd hr0
            go_wp2_with fail
            go_roundw
            case rel =>
              exact ⟨r + 1, n, by omega, by go_num, HSS2.out, (hEy.setR (p := ⟨w0.heap.size, 0, none⟩) (Nat.le_refl _) _).setR (p := ⟨w0.heap.size, 1, none⟩) (Nat.le_refl _) _, set2 HG.out _ _⟩
            case measure => simp [intOf]; omega
          · have hr0' : ((r : Int) == 0) = false := by simpa using hr0
            by_cases hlt : n < best
            · have hdd : (decide (r = 0) || decide (n < best)) = true := by simp [hlt]
              have HSS2 : Hid (innF l m W (r + 1) = some n) := Lib.hid (by rw [HSS.out, hdd]; rfl)
              have hld := decide_eq_true hlt
              clear hdd hr0 hlt
              go_wp2_with fail
              go_roundw
              case rel =>
                exact ⟨r + 1, n, by omega, by go_num, HSS2.out, (hEy.setR (p := ⟨w0.heap.size, 0, none⟩) (Nat.le_refl _) _).setR (p := ⟨w0.heap.size, 1, none⟩) (Nat.le_refl _) _, set2 HG.out _ _⟩
              case measure => simp [intOf]; omega
            · have hdd : (decide (r = 0) || decide (n < best)) = false := by simp [hlt, hr0]
              have HSS2 : Hid (innF l m W (r + 1) = some best) := Lib.hid (by rw [HSS.out, hdd]; rfl)
              have hld := decide_eq_false hlt
              clear hdd hr0 hlt
              go_wp2_with fail
              go_roundw
              case rel => exact ⟨r + 1, best, by omega, by go_num, HSS2.out, hEy, HG.out⟩
              case measure => simp [intOf]; omega
    · obtain rfl : r = R := by omega
      have HIN := Lib.hid hin
      have a0 := (cell_of hg9 0).trans rfl
      have a1 := (cell_of hg9 1).trans rfl
      have al := lt_of hg9
      obtain ⟨p0, p1, f0, f1, hl⟩ := zbox HZ0.out hE
      clear hin hg9 hs hs2
      go_wp2_with fail
      refine bodyPost_ret (v := .tuple #[.agg #[.int .i64 (hi best), .int .u64 (lo best)], .int .i64 0]) (by simp [results, Try.results13, go_sem, *]) rfl ⟨by rw [HIN.out]; rfl, ?_⟩
      exact ((hE0.trans' hE).setR (p := ⟨w.heap.size, 0, none⟩) (Nat.le_refl _) _).setR (p := ⟨w.heap.size, 1, none⟩) (Nat.le_refl _) _
end Go.Proofs.Yteoblkcbemeamaa

/- gaugerlaw11.InnerTells, walked. -/
namespace Go.Proofs.Yteoblkcbemeamaa
set_option linter.unusedVariables false
open Go.RowKit
noncomputable def innR (C : Cfg) (l m : List Int) (W R : Nat) : Value := if C.mode = 1 then innV (innF l m W R) else .tuple #[.agg #[.int .i64 0, .int .u64 0], .int .i64 3]
theorem innR_parts (C : Cfg) (l m : List Int) (W R : Nat) : ∃ a b e : Int, innR C l m W R = .tuple #[.agg #[.int .i64 a, .int .u64 b], .int .i64 e] := by
  unfold innR
  by_cases h : C.mode = 1
  · rw [if_pos h]
    cases innF l m W R with
    | none => exact ⟨0, 0, 4, rfl⟩
    | some s => exact ⟨hi s, lo s, 0, rfl⟩
  · rw [if_neg h]
    exact ⟨0, 0, 3, rfl⟩
theorem mod_below {N : Nat} {w w' : World} (h : Below N w w') : Mod (fun k => N ≤ k) w w' := ⟨h.os, h.tape, h.output, h.size, fun k _ hn => h.block k (Nat.lt_of_not_le hn)⟩
section
variable {N : Nat} {w w' : World} {C : Cfg} {lv : Int} {R W : Nat} {s o r q : Nat} {l m l' m' : List Int}
theorem Q4_inner (h : Q4 N w C lv R W s o r q l m l' m') :
    Calls Try.prog 12 #[.pointer (some ⟨s, 0, none⟩), .pointer (some ⟨o, 0, none⟩)] w fun e w' => e = .returned (innR C l m W R) ∧ Ext w w' := by
  obtain ⟨b, c, b2, c2, G, G2, h⟩ := h
  unfold innR
  by_cases hm : C.mode = 1
  · rw [if_pos hm]
    exact Inner_c s b c o b2 c2 C lv R W l m w h.o1.h h.o2.h hm
  · rw [if_neg hm]
    exact Inner_mode s b c o b2 c2 C lv R W l m w h.o1.h h.o2.h hm
theorem Q4_rinner (h : Q4 N w C lv R W s o r q l m l' m') :
    Calls Try.prog 13 #[.pointer (some ⟨r, 0, none⟩), .pointer (some ⟨q, 0, none⟩)] w fun e w' => e = .returned (innR C l' m' W R) ∧ Ext w w' := by
  obtain ⟨b, c, b2, c2, G, G2, h⟩ := h
  unfold innR
  by_cases hm : C.mode = 1
  · rw [if_pos hm]
    exact RInner_c r q G G2 C lv R W l' m' w h.o3.h h.o4.h hm
  · rw [if_neg hm]
    exact RInner_mode r q G G2 C lv R W l' m' w h.o3.h h.o4.h hm
end
set_option maxRecDepth 20000 in
set_option maxHeartbeats 16000000 in
theorem ITellsL_c (x : Cfg) (hx : x.Raw) (lx : Int) (hlx : I64 lx) (us : List (Int × Int)) (hus : UpsOk us) (v : Value) (ms : List (Int × Int)) (hms : UpsOk ms) (v' : Value) (w : World) (hv : UpsAt w v us) (hul : us.length ≤ 140737488355328) (hv' : UpsAt w v' ms) (hml : ms.length ≤ 140737488355328) :
    Calls Try.prog 3 #[.agg #[.int .i64 x.bits, .int .i64 x.rows, .int .i64 x.width, .int .i64 x.mode, .int .u64 x.seed, .int .i64 lx, v, v']] w fun e w' => e = .returned (.bool true) ∧ Ext w w' := by
  obtain ⟨vp, vc, rfl⟩ := hv.sl
  obtain ⟨mp, mc, rfl⟩ := hv'.sl
  have HV := Lib.hid hv
  have HM := Lib.hid hv'
  clear hv hv'
  have hla := and16 lx
  have hl0 := Int.emod_nonneg lx (show (65536 : Int) ≠ 0 by decide)
  have hl1 := Int.emod_lt_of_pos lx (show (0 : Int) < 65536 by decide)
  go_enter Try.func3, Try.ntmps3
  go_wp2_with fail
  refine (shown11_c _).mono ?_
  rintro e w1 ⟨rfl, hb1⟩
  have hE1 : Ext w w1 := by (repeat' (first | exact Ext.refl _ | assumption | apply Ext.allocR | apply Ext.drewR | apply Ext.drewNR | (refine Ext.trans' ?_ (by assumption))))
  have hT1 : TwoAt w1 w.heap.size x lx (.slice vp us.length vc) (.slice mp ms.length mc) := (TwoAt.of (t := 27) (heap_at _ _ rfl)).ext hb1
  clear hb1
  have d0 := hT1.c.c0
  have d1 := hT1.c.c1
  have d2 := hT1.c.c2
  have d3 := hT1.c.c3
  have d4 := hT1.c.c4
  have dl := hT1.c.lt
  go_wp2_with fail
  refine Calls.mono (Any_c x hx 6 9 (by decide) (by decide) (by decide) (by decide) _) ?_
  rintro e w2 ⟨rfl, hx2⟩
  have hok := mkC_ok x hx.s (nb := 6) (nw := 9) (by decide) (by decide) (by decide) (by decide)
  have hE12 : Ext w1 w2 := by (repeat' (first | exact Ext.refl _ | assumption | apply Ext.allocR | apply Ext.drewR | apply Ext.drewNR | (refine Ext.trans' ?_ (by assumption))))
  have hE2 := hE1.trans' hE12
  have hT2 := hT1.ext hE12
  generalize mkC x 6 9 = C at *
  have hb1 := hok.b1
  have hb2 := hok.b2
  clear hx2 d0 d1 d2 d3 d4 dl hT1 hE1 hE12
  have d5 := hT2.c5
  have dl := hT2.c.lt
  have HT2 := Lib.hid hT2
  have k0 := Int.emod_nonneg (lx % 65536) (show C.bits + 1 ≠ 0 by omega)
  have k1 := Int.emod_lt_of_pos (lx % 65536) (show 0 < C.bits + 1 by omega)
  obtain ⟨lv, hlv⟩ : ∃ lv, lx % 65536 % (C.bits + 1) = lv := ⟨_, rfl⟩
  rw [hlv] at k0 k1
  have HLV := Lib.hid hlv
  have hz0 : (C.bits + 1 == 0) = false := by simp; omega
  clear hlv hT2
  go_upto_region 4 with (fail)
  rw [HLV.out]
  obtain ⟨w3, hw3⟩ : ∃ w3, w2.alloc (.cells #[.int .i64 C.bits, .int .i64 C.rows, .int .i64 C.width, .int .i64 C.mode, .int .u64 C.seed] 24) = w3 := ⟨_, rfl⟩
  have hQ : w3.heap[w2.heap.size]? = some (.cells #[.int .i64 C.bits, .int .i64 C.rows, .int .i64 C.width, .int .i64 C.mode, .int .u64 C.seed] 24 (0, 0)) := by rw [← hw3]; exact heap_at _ _ rfl
  have hE3 : Ext w w3 := by rw [← hw3]; exact hE2.allocR _
  have hE23 : Ext w2 w3 := by rw [← hw3]; exact Ext.alloc' _ _
  have HT3 := Lib.hid (HT2.out.ext hE23)
  rw [hw3]
  clear hw3 hE2 hla hl0 hl1 HLV hz0 HT2 hE23 d5 dl
  obtain ⟨R, hR⟩ : ∃ R : Nat, C.rows = R := ⟨C.rows.toNat, by have := hok.r1; omega⟩
  obtain ⟨W, hW⟩ : ∃ W : Nat, C.width = W := ⟨C.width.toNat, by have := hok.w1; omega⟩
  have hl : lv ≤ C.bits := by omega
  have HSN := Lib.hid (fun W' => SNew_c C hok lv k0 hl R W hR hW W')
  have HRN := Lib.hid (fun W' => RSNew_c C hok lv k0 hl R W hR hW W')
  have HE3 := Lib.hid hE3
  have HQ := Lib.hid hQ
  clear hR hW hE3
  have hC3 := CfgAt.of hQ
  have c0 := hC3.c0
  have c1 := hC3.c1
  have c2 := hC3.c2
  have c3 := hC3.c3
  have c4 := hC3.c4
  have cl := hC3.lt
  clear hC3 hQ
  go_wp2_with fail
  refine (HSN.out _).mono ?_
  rintro e w4 ⟨s, b, c, rfl, hS, s1, s2, s3, hx4⟩
  have HS := Lib.hid hS
  have HX4 := Lib.hid hx4
  have hC4 := CfgAt.of (hx4.keep HQ.out)
  clear c0 c1 c2 c3 c4 cl hS hx4
  have c0 := hC4.c0
  have c1 := hC4.c1
  have c2 := hC4.c2
  have c3 := hC4.c3
  have c4 := hC4.c4
  have cl := hC4.lt
  clear hC4
  go_wp2_with fail
  refine (HSN.out _).mono ?_
  rintro e w5 ⟨o, b', c', rfl, hS, t1, t2, t3, hx5⟩
  have HS2 := Lib.hid hS
  have HX5 := Lib.hid hx5
  have hE35 := HX4.out.trans' hx5
  have hC5 := CfgAt.of (hE35.keep HQ.out)
  clear c0 c1 c2 c3 c4 cl hS hx5
  have c0 := hC5.c0
  have c1 := hC5.c1
  have c2 := hC5.c2
  have c3 := hC5.c3
  have c4 := hC5.c4
  have cl := hC5.lt
  clear hC5
  go_wp2_with fail
  refine (HRN.out _).mono ?_
  rintro e w6 ⟨r, G, rfl, hS, hF, hx6⟩
  have HS3 := Lib.hid hS
  have HF3 := Lib.hid (show ∀ k, rsF r G R k → w5.heap.size ≤ k from hF)
  have HX6 := Lib.hid hx6
  have hE36 := hE35.trans' hx6
  have hC6 := CfgAt.of (hE36.keep HQ.out)
  clear c0 c1 c2 c3 c4 cl hS hF hx6 hE35
  have c0 := hC6.c0
  have c1 := hC6.c1
  have c2 := hC6.c2
  have c3 := hC6.c3
  have c4 := hC6.c4
  have cl := hC6.lt
  clear hC6
  go_wp2_with fail
  refine (HRN.out _).mono ?_
  rintro e w7 ⟨q, G2, rfl, hS, hF, hx7⟩
  have HF4 := Lib.hid (show ∀ k, rsF q G2 R k → w6.heap.size ≤ k from hF)
  have hE37 := hE36.trans' hx7
  have hQ4 : Q4 w3.heap.size w7 C lv R W s o r q (zs (R * W)) (zs (R * W)) (zs (R * W)) (zs (R * W)) := by
    refine ⟨b, c, b', c', G, G2, Own4.mk4 (z1 := w4.heap.size) (z2 := w5.heap.size) (z3 := w6.heap.size) (HS.out.ext (HX5.out.trans' (HX6.out.trans' hx7))).own (HS2.out.ext (HX6.out.trans' hx7)).own (HS3.out.ext hx7).own hS.own (fun k hk => ⟨?_, HS.out.own.lt k hk⟩) (fun k hk => ⟨?_, HS2.out.own.lt k hk⟩) (fun k hk => ⟨HF3.out k hk, HS3.out.own.lt k hk⟩) (fun k hk => HF4.out k hk) HX4.out.size HX5.out.size HX6.out.size hE37.size⟩
    · rcases hk with rfl | rfl | rfl
      · exact s1
      · exact s2
      · exact s3
    · rcases hk with rfl | rfl | rfl
      · exact t1
      · exact t2
      · exact t3
  have HQ4 := Lib.hid hQ4
  clear c0 c1 c2 c3 c4 cl hS hF hx7 hQ4 HS HS2 HS3 HF3 HF4 HX4 HX5 HX6 HSN HRN hE36 s1 s2 s3 t1 t2 t3
  obtain ⟨N, hN⟩ : ∃ N, w3.heap.size = N := ⟨_, rfl⟩
  have hqN : w2.heap.size < N := by rw [← hN]; exact lt_of HQ.out
  have hwN : w.heap.size ≤ N := by rw [← hN]; exact HE3.out.size
  rw [hN] at HQ4
  have HBN : Hid (w.heap.size < N) := Lib.hid (by rw [← hN]; exact HT3.out.c.lt)
  have HN := Lib.hid hN
  clear hN
  go_wp2_with fail
  go_loopw [12] (fun u wr => ∃ (k : Nat) (y : List Int), k ≤ 40 ∧ k ≤ us.length ∧ u = .int .i64 k ∧ Ext w3 wr ∧ Q4 N wr C lv R W s o r q y (zs (R * W)) y (zs (R * W))) (fun u _ => 40 - (intOf u).toNat)
  case atStart => exact ⟨0, _, Nat.zero_le _, Nat.zero_le _, rfl, hE37, HQ4.out⟩
  case round =>
    clear hE37 HQ4
    obtain ⟨k, y, hk40, hkl, rfl, hE, hS⟩ := hrel
    have HS := Lib.hid hS
    have hT := HT3.out.ext hE
    have b6 := hT.c6
    have bl := hT.c.lt
    clear hS hT
    by_cases hgo : k < us.length ∧ k < 40
    · obtain ⟨hg1, hg2⟩ := hgo
      obtain ⟨ug, off, hvp, hul0, d1', d2'⟩ := HV.out.one hg1
      subst hvp
      have hEw := HE3.out.trans' hE
      have d1 := ((bcell hEw).1 _ _ hul0).trans d1'
      have d2 := ((bcell hEw).1 _ _ hul0).trans d2'
      have gl := Nat.lt_of_lt_of_le hul0 hEw.size
      have hugN : ug < N := Nat.lt_of_lt_of_le hul0 hwN
      have hu := hus _ (List.getElem_mem hg1)
      generalize us[k] = oo at *
      obtain ⟨uk, ud⟩ := oo
      obtain ⟨hukU, hudI⟩ := hu
      have HUK := Lib.hid hukU
      have HUD := Lib.hid hudI
      have HER := Lib.hid hE
      obtain ⟨S, hS⟩ : ∃ S : Nat → Prop, (fun k => N ≤ k) = S := ⟨_, rfl⟩
      have HSS := Lib.hid hS
      have ns1 : ¬ S ug := by rw [← hS]; show ¬ N ≤ ug; omega
      have ns2 : ¬ S w.heap.size := by rw [← hS]; show ¬ N ≤ w.heap.size; have := HBN.out; omega
      clear hS
      clear d1' d2' hukU hudI hEw hE
      go_wp2_with fail
      have hC0 := afs_drew S wr
      refine pi_start (fun w' => ∃ x : AftS S wr, w' = x.w) [] (by kernel_rfl) ?_
      refine pi_t 0 rfl (by kernel_rfl) (by kernel_rfl) (fun _ _ _ _ h => h) (fun K hK => ?_)
      go_big_quiet_op
      refine hK _ ?_
      clear hK K
      refine pi_t 1 rfl (by kernel_rfl) (by kernel_rfl) (fun _ _ _ _ h => h) (fun K hK => ?_)
      go_big_quiet_op
      refine hK _ ?_
      clear hK K
      refine pi_t 3 rfl (by kernel_rfl) (by kernel_rfl) (fun _ _ _ _ h => h) (fun K hK => ?_)
      go_big_quiet_op
      refine hK _ ?_
      clear hK K
      refine pi_t 7 rfl (by kernel_rfl) (by kernel_rfl) (fun _ _ _ _ h => h) (fun K hK => ?_)
      go_big_quiet_op
      refine hK _ ?_
      clear hK K
      refine pi_t 9 rfl (by kernel_rfl) (by kernel_rfl) (fun _ _ _ _ h => h) (fun K hK => ?_)
      go_big_quiet_op
      refine hK _ ?_
      clear hK K
      refine pi_c 2 (by assumption) rfl (by kernel_rfl) (by kernel_rfl) (fun _ _ _ _ h => h) (fun K hK => ?_)
      go_big_quiet_op
      refine hK _ ?_
      clear hK K
      refine pi_t 4 rfl (by kernel_rfl) (by kernel_rfl) (fun _ _ _ _ h => h) (fun K hK => ?_)
      go_big_quiet_op
      refine hK _ ?_
      clear hK K
      refine pi_t 5 rfl (by kernel_rfl) (by kernel_rfl) (fun _ _ _ _ h => h) (fun K hK => ?_)
      go_big_quiet_op
      refine hK _ ?_
      clear hK K
      refine pi_c 6 (by assumption) rfl (by kernel_rfl) (by kernel_rfl) (fun _ _ _ _ h => h) (fun K hK => ?_)
      go_big_quiet_op
      refine hK _ ?_
      clear hK K
      refine pi_c 8 (by assumption) rfl (by kernel_rfl) (by kernel_rfl) (fun _ _ _ _ h => h) (fun K hK => ?_)
      go_big_quiet_op
      refine hK _ ?_
      clear hK K
      refine pi_t 10 rfl (by kernel_rfl) (by kernel_rfl) (fun _ _ _ _ h => h) (fun K hK => ?_)
      go_big_quiet_op
      refine hK _ ?_
      clear hK K
      refine pi_t 11 rfl (by kernel_rfl) (by kernel_rfl) (fun _ _ _ _ h => h) (fun K hK => ?_)
      go_big_quiet_op
      refine hK _ ?_
      clear hK K
      refine pi_c 12 (by assumption) rfl (by kernel_rfl) (by kernel_rfl) (fun _ _ _ _ h => h) (fun K hK => ?_)
      go_big_quiet_op
      refine hK _ ?_
      clear hK K
      refine pi_l 13 rfl (by kernel_rfl) (fun K hK => ?_)
      go_wp2_with (go_at_call 10; refine Calls.mono (Q4_upd (HS.out.ext (Below.drew (Ext.refl wr))) uk ud HUK.out HUD.out) ?_; rintro e w8 ⟨rfl, hQ8, hB8⟩)
      have hB8' : Below N wr w8 := Below.trans (below_of (Below.drew (Ext.refl wr)) (by have := HER.out.size; have := HN.out; omega)) hB8
      refine hK _ _ (fun _ _ => ⟨⟨w8, by rw [← HSS.out]; exact mod_below hB8'⟩, rfl⟩) ?_
      clear hK K
      have HQ8 := Lib.hid hQ8
      have HB8 := Lib.hid hB8'
      have e1' := cell_below hB8' hugN d1
      have e2' := cell_below hB8' hugN d2
      have b6' := cell_below hB8' HBN.out b6
      have gl8 := Nat.lt_of_lt_of_le gl hB8'.size
      have bl8 := Nat.lt_of_lt_of_le bl hB8'.size
      clear hQ8 hB8 hB8' d1 d2 b6
      refine pi_end (by kernel_rfl) ?_
      go_wp2_with fail
      have hC0 := afs_drew S w8
      refine pi_start (fun w' => ∃ x : AftS S w8, w' = x.w) [] (by kernel_rfl) ?_
      refine pi_t 0 rfl (by kernel_rfl) (by kernel_rfl) (fun _ _ _ _ h => h) (fun K hK => ?_)
      go_big_quiet_op
      refine hK _ ?_
      clear hK K
      refine pi_t 1 rfl (by kernel_rfl) (by kernel_rfl) (fun _ _ _ _ h => h) (fun K hK => ?_)
      go_big_quiet_op
      refine hK _ ?_
      clear hK K
      refine pi_t 3 rfl (by kernel_rfl) (by kernel_rfl) (fun _ _ _ _ h => h) (fun K hK => ?_)
      go_big_quiet_op
      refine hK _ ?_
      clear hK K
      refine pi_t 7 rfl (by kernel_rfl) (by kernel_rfl) (fun _ _ _ _ h => h) (fun K hK => ?_)
      go_big_quiet_op
      refine hK _ ?_
      clear hK K
      refine pi_t 9 rfl (by kernel_rfl) (by kernel_rfl) (fun _ _ _ _ h => h) (fun K hK => ?_)
      go_big_quiet_op
      refine hK _ ?_
      clear hK K
      refine pi_c 2 (by assumption) rfl (by kernel_rfl) (by kernel_rfl) (fun _ _ _ _ h => h) (fun K hK => ?_)
      go_big_quiet_op
      refine hK _ ?_
      clear hK K
      refine pi_t 4 rfl (by kernel_rfl) (by kernel_rfl) (fun _ _ _ _ h => h) (fun K hK => ?_)
      go_big_quiet_op
      refine hK _ ?_
      clear hK K
      refine pi_t 5 rfl (by kernel_rfl) (by kernel_rfl) (fun _ _ _ _ h => h) (fun K hK => ?_)
      go_big_quiet_op
      refine hK _ ?_
      clear hK K
      refine pi_c 6 (by assumption) rfl (by kernel_rfl) (by kernel_rfl) (fun _ _ _ _ h => h) (fun K hK => ?_)
      go_big_quiet_op
      refine hK _ ?_
      clear hK K
      refine pi_c 8 (by assumption) rfl (by kernel_rfl) (by kernel_rfl) (fun _ _ _ _ h => h) (fun K hK => ?_)
      go_big_quiet_op
      refine hK _ ?_
      clear hK K
      refine pi_t 10 rfl (by kernel_rfl) (by kernel_rfl) (fun _ _ _ _ h => h) (fun K hK => ?_)
      go_big_quiet_op
      refine hK _ ?_
      clear hK K
      refine pi_t 11 rfl (by kernel_rfl) (by kernel_rfl) (fun _ _ _ _ h => h) (fun K hK => ?_)
      go_big_quiet_op
      refine hK _ ?_
      clear hK K
      refine pi_c 12 (by assumption) rfl (by kernel_rfl) (by kernel_rfl) (fun _ _ _ _ h => h) (fun K hK => ?_)
      go_big_quiet_op
      refine hK _ ?_
      clear hK K
      refine pi_l 13 rfl (by kernel_rfl) (fun K hK => ?_)
      go_wp2_with (go_at_call 11; refine Calls.mono (Q4_rupd (HQ8.out.ext (Below.drew (Ext.refl w8))) uk ud HUK.out HUD.out) ?_; rintro e w9 ⟨rfl, hQ9, hB9⟩)
      have hB89 : Below N w8 w9 := Below.trans (below_of (Below.drew (Ext.refl w8)) (by have := HER.out.size; have := HN.out; have := HB8.out.size; omega)) hB9
      refine hK _ _ (fun _ _ => ⟨⟨w9, by rw [← HSS.out]; exact mod_below hB89⟩, rfl⟩) ?_
      clear hK K
      have HQ9 := Lib.hid hQ9
      have hB9' : Below N wr w9 := Below.trans HB8.out hB89
      have hE9 : Ext w3 w9 := Below.trans HER.out (by rw [HN.out]; exact hB9')
      clear hQ9 hB9 hB9' hB89 e1' e2' b6'
      refine pi_end (by kernel_rfl) ?_
      go_wp2
      go_roundw
      case rel => exact ⟨k + 1, _, by omega, by omega, by go_num, hE9, HQ9.out⟩
      case measure => simp [intOf]; omega
    · have hge : ¬ k < us.length ∨ ¬ k < 40 := by omega
      clear hgo
      rename World => wo
      go_upto_region 11 with (fail)
      go_cut [69] (fun s74 wx => s74 = .bool false ∧ wx = wo)
      case first =>
        by_cases hgl : k < us.length
        · have hg6 : ¬ k < 40 := by omega
          go_wp2_with fail
          go_meet
          exact ⟨by first | rfl | exact congrArg Value.bool (decide_eq_false (by omega)), rfl⟩
        · first
            | (go_wp2_with fail
               go_meet
               exact ⟨rfl, rfl⟩)
            | (clear hge
               go_wp2_with fail
               go_meet
               exact ⟨by first | rfl | exact congrArg Value.bool (decide_eq_false (by omega)), rfl⟩)
      case rest =>
        obtain ⟨rfl, rfl⟩ := hcut
        rename World => wo
        clear hge b6 bl hkl hk40
        have HE1 := Lib.hid hE
        have HS1 := HS
        rename List Int => l
        clear hE HS
        go_wp2_with fail
        go_loopw [13] (fun u wr => ∃ (k : Nat) (y : List Int), k ≤ 40 ∧ k ≤ ms.length ∧ u = .int .i64 k ∧ Ext w3 wr ∧ Q4 N wr C lv R W s o r q l y l y) (fun u _ => 40 - (intOf u).toNat)
        case atStart => exact ⟨0, _, Nat.zero_le _, Nat.zero_le _, rfl, HE1.out, HS1.out⟩
        case round =>
          clear HE1 HS1
          obtain ⟨k, y, hk40, hkl, rfl, hE, hS⟩ := hrel
          have HS := Lib.hid hS
          have hT := HT3.out.ext hE
          have b6 := hT.c7
          have bl := hT.c.lt
          clear hS hT
          by_cases hgo : k < ms.length ∧ k < 40
          · obtain ⟨hg1, hg2⟩ := hgo
            obtain ⟨ug, off, hvp, hul0, d1', d2'⟩ := HM.out.one hg1
            subst hvp
            have hEw := HE3.out.trans' hE
            have d1 := ((bcell hEw).1 _ _ hul0).trans d1'
            have d2 := ((bcell hEw).1 _ _ hul0).trans d2'
            have gl := Nat.lt_of_lt_of_le hul0 hEw.size
            have hugN : ug < N := Nat.lt_of_lt_of_le hul0 hwN
            have hu := hms _ (List.getElem_mem hg1)
            generalize ms[k] = oo at *
            obtain ⟨uk, ud⟩ := oo
            obtain ⟨hukU, hudI⟩ := hu
            have HUK := Lib.hid hukU
            have HUD := Lib.hid hudI
            have HER := Lib.hid hE
            obtain ⟨S, hS⟩ : ∃ S : Nat → Prop, (fun k => N ≤ k) = S := ⟨_, rfl⟩
            have HSS := Lib.hid hS
            have ns1 : ¬ S ug := by rw [← hS]; show ¬ N ≤ ug; omega
            have ns2 : ¬ S w.heap.size := by rw [← hS]; show ¬ N ≤ w.heap.size; have := HBN.out; omega
            clear hS
            clear d1' d2' hukU hudI hEw hE
            go_wp2_with fail
            have hC0 := afs_drew S wr
            refine pi_start (fun w' => ∃ x : AftS S wr, w' = x.w) [] (by kernel_rfl) ?_
            refine pi_t 0 rfl (by kernel_rfl) (by kernel_rfl) (fun _ _ _ _ h => h) (fun K hK => ?_)
            go_big_quiet_op
            refine hK _ ?_
            clear hK K
            refine pi_t 1 rfl (by kernel_rfl) (by kernel_rfl) (fun _ _ _ _ h => h) (fun K hK => ?_)
            go_big_quiet_op
            refine hK _ ?_
            clear hK K
            refine pi_t 3 rfl (by kernel_rfl) (by kernel_rfl) (fun _ _ _ _ h => h) (fun K hK => ?_)
            go_big_quiet_op
            refine hK _ ?_
            clear hK K
            refine pi_t 7 rfl (by kernel_rfl) (by kernel_rfl) (fun _ _ _ _ h => h) (fun K hK => ?_)
            go_big_quiet_op
            refine hK _ ?_
            clear hK K
            refine pi_t 9 rfl (by kernel_rfl) (by kernel_rfl) (fun _ _ _ _ h => h) (fun K hK => ?_)
            go_big_quiet_op
            refine hK _ ?_
            clear hK K
            refine pi_c 2 (by assumption) rfl (by kernel_rfl) (by kernel_rfl) (fun _ _ _ _ h => h) (fun K hK => ?_)
            go_big_quiet_op
            refine hK _ ?_
            clear hK K
            refine pi_t 4 rfl (by kernel_rfl) (by kernel_rfl) (fun _ _ _ _ h => h) (fun K hK => ?_)
            go_big_quiet_op
            refine hK _ ?_
            clear hK K
            refine pi_t 5 rfl (by kernel_rfl) (by kernel_rfl) (fun _ _ _ _ h => h) (fun K hK => ?_)
            go_big_quiet_op
            refine hK _ ?_
            clear hK K
            refine pi_c 6 (by assumption) rfl (by kernel_rfl) (by kernel_rfl) (fun _ _ _ _ h => h) (fun K hK => ?_)
            go_big_quiet_op
            refine hK _ ?_
            clear hK K
            refine pi_c 8 (by assumption) rfl (by kernel_rfl) (by kernel_rfl) (fun _ _ _ _ h => h) (fun K hK => ?_)
            go_big_quiet_op
            refine hK _ ?_
            clear hK K
            refine pi_t 10 rfl (by kernel_rfl) (by kernel_rfl) (fun _ _ _ _ h => h) (fun K hK => ?_)
            go_big_quiet_op
            refine hK _ ?_
            clear hK K
            refine pi_t 11 rfl (by kernel_rfl) (by kernel_rfl) (fun _ _ _ _ h => h) (fun K hK => ?_)
            go_big_quiet_op
            refine hK _ ?_
            clear hK K
            refine pi_c 12 (by assumption) rfl (by kernel_rfl) (by kernel_rfl) (fun _ _ _ _ h => h) (fun K hK => ?_)
            go_big_quiet_op
            refine hK _ ?_
            clear hK K
            refine pi_l 13 rfl (by kernel_rfl) (fun K hK => ?_)
            go_wp2_with (go_at_call 10; refine Calls.mono (Q4_upd (HS.out.swap.ext (Below.drew (Ext.refl wr))) uk ud HUK.out HUD.out) ?_; rintro e w8 ⟨rfl, hQ8, hB8⟩)
            have hB8' : Below N wr w8 := Below.trans (below_of (Below.drew (Ext.refl wr)) (by have := HER.out.size; have := HN.out; omega)) hB8
            refine hK _ _ (fun _ _ => ⟨⟨w8, by rw [← HSS.out]; exact mod_below hB8'⟩, rfl⟩) ?_
            clear hK K
            have HQ8 := Lib.hid hQ8
            have HB8 := Lib.hid hB8'
            have e1' := cell_below hB8' hugN d1
            have e2' := cell_below hB8' hugN d2
            have b6' := cell_below hB8' HBN.out b6
            have gl8 := Nat.lt_of_lt_of_le gl hB8'.size
            have bl8 := Nat.lt_of_lt_of_le bl hB8'.size
            clear hQ8 hB8 hB8' d1 d2 b6
            refine pi_end (by kernel_rfl) ?_
            go_wp2_with fail
            have hC0 := afs_drew S w8
            refine pi_start (fun w' => ∃ x : AftS S w8, w' = x.w) [] (by kernel_rfl) ?_
            refine pi_t 0 rfl (by kernel_rfl) (by kernel_rfl) (fun _ _ _ _ h => h) (fun K hK => ?_)
            go_big_quiet_op
            refine hK _ ?_
            clear hK K
            refine pi_t 1 rfl (by kernel_rfl) (by kernel_rfl) (fun _ _ _ _ h => h) (fun K hK => ?_)
            go_big_quiet_op
            refine hK _ ?_
            clear hK K
            refine pi_t 3 rfl (by kernel_rfl) (by kernel_rfl) (fun _ _ _ _ h => h) (fun K hK => ?_)
            go_big_quiet_op
            refine hK _ ?_
            clear hK K
            refine pi_t 7 rfl (by kernel_rfl) (by kernel_rfl) (fun _ _ _ _ h => h) (fun K hK => ?_)
            go_big_quiet_op
            refine hK _ ?_
            clear hK K
            refine pi_t 9 rfl (by kernel_rfl) (by kernel_rfl) (fun _ _ _ _ h => h) (fun K hK => ?_)
            go_big_quiet_op
            refine hK _ ?_
            clear hK K
            refine pi_c 2 (by assumption) rfl (by kernel_rfl) (by kernel_rfl) (fun _ _ _ _ h => h) (fun K hK => ?_)
            go_big_quiet_op
            refine hK _ ?_
            clear hK K
            refine pi_t 4 rfl (by kernel_rfl) (by kernel_rfl) (fun _ _ _ _ h => h) (fun K hK => ?_)
            go_big_quiet_op
            refine hK _ ?_
            clear hK K
            refine pi_t 5 rfl (by kernel_rfl) (by kernel_rfl) (fun _ _ _ _ h => h) (fun K hK => ?_)
            go_big_quiet_op
            refine hK _ ?_
            clear hK K
            refine pi_c 6 (by assumption) rfl (by kernel_rfl) (by kernel_rfl) (fun _ _ _ _ h => h) (fun K hK => ?_)
            go_big_quiet_op
            refine hK _ ?_
            clear hK K
            refine pi_c 8 (by assumption) rfl (by kernel_rfl) (by kernel_rfl) (fun _ _ _ _ h => h) (fun K hK => ?_)
            go_big_quiet_op
            refine hK _ ?_
            clear hK K
            refine pi_t 10 rfl (by kernel_rfl) (by kernel_rfl) (fun _ _ _ _ h => h) (fun K hK => ?_)
            go_big_quiet_op
            refine hK _ ?_
            clear hK K
            refine pi_t 11 rfl (by kernel_rfl) (by kernel_rfl) (fun _ _ _ _ h => h) (fun K hK => ?_)
            go_big_quiet_op
            refine hK _ ?_
            clear hK K
            refine pi_c 12 (by assumption) rfl (by kernel_rfl) (by kernel_rfl) (fun _ _ _ _ h => h) (fun K hK => ?_)
            go_big_quiet_op
            refine hK _ ?_
            clear hK K
            refine pi_l 13 rfl (by kernel_rfl) (fun K hK => ?_)
            go_wp2_with (go_at_call 11; refine Calls.mono (Q4_rupd (HQ8.out.ext (Below.drew (Ext.refl w8))) uk ud HUK.out HUD.out) ?_; rintro e w9 ⟨rfl, hQ9, hB9⟩)
            have hB89 : Below N w8 w9 := Below.trans (below_of (Below.drew (Ext.refl w8)) (by have := HER.out.size; have := HN.out; have := HB8.out.size; omega)) hB9
            refine hK _ _ (fun _ _ => ⟨⟨w9, by rw [← HSS.out]; exact mod_below hB89⟩, rfl⟩) ?_
            clear hK K
            have HQ9 := Lib.hid hQ9
            have hB9' : Below N wr w9 := Below.trans HB8.out hB89
            have hE9 : Ext w3 w9 := Below.trans HER.out (by rw [HN.out]; exact hB9')
            clear hQ9 hB9 hB9' hB89 e1' e2' b6'
            refine pi_end (by kernel_rfl) ?_
            go_wp2
            go_roundw
            case rel => exact ⟨k + 1, _, by omega, by omega, by go_num, hE9, HQ9.out.swap⟩
            case measure => simp [intOf]; omega
          · have hge : ¬ k < ms.length ∨ ¬ k < 40 := by omega
            clear hgo
            rename World => wo
            go_upto_region 16 with (fail)
            go_cut [108] (fun s74 wx => s74 = .bool false ∧ wx = wo)
            case first =>
              by_cases hgl : k < ms.length
              · have hg6 : ¬ k < 40 := by omega
                go_wp2_with fail
                go_meet
                exact ⟨by first | rfl | exact congrArg Value.bool (decide_eq_false (by omega)), rfl⟩
              · first
                  | (go_wp2_with fail
                     go_meet
                     exact ⟨rfl, rfl⟩)
                  | (clear hge
                     go_wp2_with fail
                     go_meet
                     exact ⟨by first | rfl | exact congrArg Value.bool (decide_eq_false (by omega)), rfl⟩)
            case rest =>
              obtain ⟨rfl, rfl⟩ := hcut
              rename World => wo
              clear hge b6 bl hkl hk40
              have HE := Lib.hid hE
              obtain ⟨ra, rb, re, hre⟩ := innR_parts C l y W R
              have HI := Lib.hid (fun W' (h : Ext wo W') => Q4_inner (HS.out.ext h))
              have HJ := Lib.hid (fun W' (h : Ext wo W') => Q4_rinner (HS.out.ext h))
              simp only [hre] at HI HJ
              clear hre hE
              go_wp2_with fail
              refine Calls.mono (HI.out _ (Ext.refl wo)) ?_
              rintro e wa ⟨rfl, hxa⟩
              have HXA := Lib.hid hxa
              clear hxa
              go_upto_region 21 with (fail)
              obtain ⟨wb, hwb⟩ : ∃ wb, wa.alloc (.cells #[.int .i64 ra, .int .u64 rb] 40) = wb := ⟨_, rfl⟩
              have hbb : wb.heap[wa.heap.size]? = some (.cells #[.int .i64 ra, .int .u64 rb] 40 (0, 0)) := by rw [← hwb]; exact heap_at _ _ rfl
              have hEb : Ext wo wb := by rw [← hwb]; exact HXA.out.allocR _
              try rw [hwb]
              have HBB := Lib.hid hbb
              have HEB := Lib.hid hEb
              clear hwb hbb hEb
              go_wp2_with fail
              refine Calls.mono (HJ.out _ HEB.out) ?_
              rintro e wc ⟨rfl, hxc⟩
              have hbc := hxc.keep HBB.out
              have y0 := (cell_of hbc 0).trans rfl
              have y1 := (cell_of hbc 1).trans rfl
              have yl := lt_of hbc
              have hEc := HE3.out.trans' (HE.out.trans' (HEB.out.trans' hxc))
              have HEC := Lib.hid hEc
              clear hbc hxc hEc
              go_wp2
              go_ret
              exact ⟨by first | rfl | simp, HEC.out.allocR _⟩
end Go.Proofs.Yteoblkcbemeamaa

/- What a config, a level, and two rows of updates read as, beside Open15. No condition. -/
namespace Go.Proofs.Yteoblkcbemeamaa
set_option linter.unusedVariables false
open Go.ChangeShapes Go.WideShapes Go.ChangeAt Go.RowKit Go.Deep
section
variable {H : Type} {enc : TypeId × Value → H} {w : World} {held : Bool}
set_option maxRecDepth 100000 in
theorem two_of {r : Reach} {b0 : Nat} {v : Value} {d : DataW H} {p : List MemPlace} (hv : Value.okWide Try.prog w r b0 27 v) (h : DataW.Trod enc Try.prog w 0 (fun _ => true) held 27 v d p) :
    ∃ (x : Cfg) (lv : Int) (us : List (Int × Int)) (u : Value) (ms : List (Int × Int)) (m : Value), x.Raw ∧ I64 lv ∧ UpsOk us ∧ UpsAt w u us ∧ UpsOk ms ∧ UpsAt w m ms ∧ v = .agg #[.int .i64 x.bits, .int .i64 x.rows, .int .i64 x.width, .int .i64 x.mode, .int .u64 x.seed, .int .i64 lv, u, m] ∧
      ∀ (ts : List TypeId) (ds : List (DataW H)) (j : Nat), (DataW.weightsEach Try.prog ts ds).all (· ≤ reachBytes) = true → ts[j]? = some 27 → ds[j]? = some d → us.length ≤ 140737488355328 ∧ ms.length ≤ 140737488355328 := by
  obtain ⟨cs, rfl, hsz⟩ := okWide_struct Try.underlying27 hv
  obtain ⟨fuel, hf⟩ := h
  obtain ⟨l⟩ := cs
  obtain ⟨xs, n, _, hd, hl, hx, hg⟩ := DataW.trod_struct Try.underlying27 hf
  have hl' : l.length = 8 := hsz.trans (by kernel_rfl)
  match l, hl' with
  | [c0, c1, c2, c3, c4, c5, c6, c7], _ =>
    have hx' : xs.length = 4 := hx.trans (by kernel_rfl)
    match xs, hx' with
    | [x0, x1, x2, x3], _ =>
      have e0 : DataW.trod enc Try.prog w 0 (fun _ => true) held n 24 [c0, c1, c2, c3, c4] = some x0 := hg 0 _ rfl
      have e1 : DataW.trod enc Try.prog w 0 (fun _ => true) held n 3 [c5] = some x1 := hg 1 _ rfl
      have e2 : DataW.trod enc Try.prog w 0 (fun _ => true) held n 25 [c6] = some x2 := hg 2 _ rfl
      have e3 : DataW.trod enc Try.prog w 0 (fun _ => true) held n 25 [c7] = some x3 := hg 3 _ rfl
      obtain ⟨x, hxr, hc⟩ := cfg_of e0
      obtain ⟨lv, h1, _, w1⟩ := DataW.trod_int Try.underlying3 e1
      obtain ⟨us, hu, hat, hlen⟩ := ups_of e2
      obtain ⟨ms, hm, hmt, hmlen⟩ := ups_of e3
      simp only [List.cons.injEq, and_true] at hc h1
      obtain ⟨rfl, rfl, rfl, rfl, rfl⟩ := hc
      subst h1
      simp only [Prod.mk.injEq] at hd
      have hb : Try.prog.bytesOf 38 = 16 := by kernel_rfl
      refine ⟨x, lv, us, c6, ms, c7, hxr, wf_i64 w1, hu, hat, hm, hmt, rfl, fun ts ds j hs ht hj => ⟨?_, ?_⟩⟩
      · rcases hlen with rfl | ⟨el, sp, hx2, hel⟩
        · simp
        · have := reach_of hs ht hj (n := (el.length + sp.length) * Try.prog.bytesOf 38) (by
            rw [hd.1]
            simp [DataW.weights, DataW.weightsEach, hx2, Try.underlying27, Try.underlying25])
          rw [hb] at this
          simp only [reachBytes] at this
          omega
      · rcases hmlen with rfl | ⟨el, sp, hx2, hel⟩
        · simp
        · have := reach_of hs ht hj (n := (el.length + sp.length) * Try.prog.bytesOf 38) (by
            rw [hd.1]
            simp [DataW.weights, DataW.weightsEach, hx2, Try.underlying27, Try.underlying25])
          rw [hb] at this
          simp only [reachBytes] at this
          omega
end
end Go.Proofs.Yteoblkcbemeamaa
