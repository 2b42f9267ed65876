/- The calls hash.Bucket, shape.Right, Keys, Columns tell what they compute, and leave what was there. Conditions: numbers in the bounds of their types. -/
import Derived.Test.YthancaehlijaoaaSeeds
import Derived.Test.YthancaehlijaoaaTools
namespace Go.Proofs.Ythancaehlijaoaa
set_option linter.unusedVariables false
open Go.RowKit

def lineAt (a b x : Int) : Int := fadd (fmul a x) b
set_option maxHeartbeats 400000 in
theorem at_c (a b x : Int) (ha : U64 a) (hb : U64 b) (hx : U64 x) (w : World) :
    Calls Try.prog 89 #[.agg #[.int .u64 a, .int .u64 b], .int .u64 x] w fun e w' => e = .returned (.int .u64 (lineAt a b x)) ∧ Ext w w' := by
  go_enter Try.func89, Try.ntmps89
  go_wp2
  refine wp_region_after (by kernel_rfl) (by kernel_rfl) ?_
  repeat (go_big_quiet_step ((first | (go_at_call 113; exact quiet_after_same (Fmul_c _ _ ha hx _)) | (go_at_call 112; exact quiet_after_same (Fadd_c _ _ (fmul_u _ _) hb _)))))
  refine wpQuiet_nil ?_
  rintro _ ⟨xx, rfl⟩
  obtain ⟨w1, hb1⟩ := xx
  try dsimp only
  go_wp2
  go_ret
  refine ⟨rfl, ?_⟩
  (repeat' (first | exact Ext.refl _ | assumption | apply Ext.allocR | apply Ext.drewR | apply Ext.drewNR | (refine Ext.trans' ?_ (by assumption))))
def bkt (a b x wd : Int) : Int := lineAt a b x % wd
theorem bkt_bd (a b x wd : Int) (h : 1 ≤ wd) : 0 ≤ bkt a b x wd ∧ bkt a b x wd < wd := ⟨Int.emod_nonneg _ (by omega), Int.emod_lt_of_pos _ (by omega)⟩
set_option maxHeartbeats 400000 in
theorem Bucket_c (a b x wd : Int) (ha : U64 a) (hb : U64 b) (hx : U64 x) (h1 : 1 ≤ wd) (h2 : wd ≤ 1000000) (w : World) :
    Calls Try.prog 58 #[.int .u64 a, .int .u64 b, .int .u64 x, .int .i64 wd] w fun e w' => e = .returned (.int .i64 (bkt a b x wd)) ∧ Ext w w' := by
  have g : decide (wd < 1) = false := by simp; omega
  have hu : U64 (lineAt a b x) := fadd_u _ _
  obtain ⟨u1, u2⟩ := hu
  have hb1 := bkt_bd a b x wd h1
  unfold bkt at hb1
  go_enter Try.func58, Try.ntmps58
  go_wp2_with (go_at_call 89; refine (at_c _ _ _ ha hb hx _).mono ?_; rintro e w1 ⟨rfl, hb⟩)
  go_ret
  exact ⟨rfl, hb⟩

/-! shape -/
structure Cfg where
  bits : Int
  rows : Int
  width : Int
  mode : Int
  seed : Int
structure Cfg.Raw (c : Cfg) : Prop where
  b : I64 c.bits
  r : I64 c.rows
  w : I64 c.width
  m : I64 c.mode
  s : U64 c.seed
structure Cfg.Ok (c : Cfg) : Prop where
  b1 : 1 ≤ c.bits
  b2 : c.bits ≤ 59
  r1 : 1 ≤ c.rows
  r2 : c.rows ≤ 8
  w1 : 1 ≤ c.width
  w2 : c.width ≤ 128
  m1 : 1 ≤ c.mode
  m2 : c.mode ≤ 3
  s : U64 c.seed
set_option maxRecDepth 100000 in
set_option maxHeartbeats 2000000 in
theorem within_c (a b c d : Int) (s : Nat) (w : World)
    (ha : decide (a < 1) = false) (ha' : decide (59 < a) = false) (hb : decide (b < 1) = false) (hb' : decide (8 < b) = false)
    (hc : decide (c < 1) = false) (hc' : decide (128 < c) = false) (hd : decide (d < 1) = false) (hd' : decide (3 < d) = false)
    (hs : w.heap[s]? = some (.cells #[.int .i64 a, .int .i64 59, .int .i64 b, .int .i64 8, .int .i64 c, .int .i64 128, .int .i64 d, .int .i64 3] 152 (0, 0))) :
    Calls Try.prog 110 #[.slice (some ⟨s, 0, none⟩) 4 4] w fun e w' => e = .returned (.bool true) ∧ Ext w w' := by
  have hlt := lt_of hs
  have l1 : s < w.heap.size + 1 := by omega
  have l2 : s < w.heap.size + 1 + 1 := by omega
  have l3 : s < w.heap.size + 1 + 1 + 1 := by omega
  have k0 := cell_of hs 0
  have k1 := cell_of hs 1
  have k2 := cell_of hs 2
  have k3 := cell_of hs 3
  have k4 := cell_of hs 4
  have k5 := cell_of hs 5
  have k6 := cell_of hs 6
  have k7 := cell_of hs 7
  simp at k0 k1 k2 k3 k4 k5 k6 k7
  clear hs
  go_enter Try.func110, Try.ntmps110
  go_wp2
  refine wp_loop_rounds 5 ?_
  rw [rounds_succ]
  go_wp2
  rw [rounds_succ]
  go_wp2
  rw [rounds_succ]
  go_wp2
  rw [rounds_succ]
  go_wp2
  rw [rounds_succ]
  go_wp2
  go_ret
  exact ⟨rfl, by (repeat' (first | exact Ext.refl _ | assumption | apply Ext.allocR | apply Ext.drewR | apply Ext.drewNR | (refine Ext.trans' ?_ (by assumption))))⟩
set_option maxHeartbeats 1000000 in
theorem Right_c (c : Cfg) (h : c.Ok) (w : World) :
    Calls Try.prog 87 #[.agg #[.int .i64 c.bits, .int .i64 c.rows, .int .i64 c.width, .int .i64 c.mode, .int .u64 c.seed]] w fun e w' => e = .returned (.bool true) ∧ Ext w w' := by
  obtain ⟨b1, b2, r1, r2, w1, w2, m1, m2, s⟩ := h
  go_enter Try.func87, Try.ntmps87
  go_wp2_with (go_at_call 110; refine (within_c c.bits c.rows c.width c.mode _ _ (by simp; omega) (by simp; omega) (by simp; omega) (by simp; omega) (by simp; omega) (by simp; omega) (by simp; omega) (by simp; omega) ?hs).mono ?_)
  · skip
    exact heap_at _ _ (by simp only [size_alloc])
  rintro e w1 ⟨rfl, hb⟩
  go_wp2
  go_ret
  refine ⟨rfl, ?_⟩
  (repeat' (first | exact Ext.refl _ | assumption | apply Ext.allocR | apply Ext.drewR | apply Ext.drewNR | (refine Ext.trans' ?_ (by assumption))))
def keys (c : Cfg) (l : Int) : Int := 2 ^ (c.bits - l).toNat
set_option maxHeartbeats 1000000 in
theorem Keys_c (c : Cfg) (h : c.Ok) (l : Int) (h0 : 0 ≤ l) (h1 : l ≤ c.bits) (w : World) :
    Calls Try.prog 55 #[.agg #[.int .i64 c.bits, .int .i64 c.rows, .int .i64 c.width, .int .i64 c.mode, .int .u64 c.seed], .int .i64 l] w fun e w' => e = .returned (.int .u64 (keys c l)) ∧ Ext w w' := by
  have hk := h
  obtain ⟨b1, b2, r1, r2, w1, w2, m1, m2, s⟩ := h
  have g1 : decide (l < 0) = false := by simp; omega
  have g2 : decide (c.bits < l) = false := by simp; omega
  go_enter Try.func55, Try.ntmps55
  go_wp2_with fail
  refine (Right_c c hk _).mono ?_
  rintro e w1 ⟨rfl, hb⟩
  have hc := bcell hb
  go_wp2
  go_ret
  have hp := pow_bd (c.bits - l).toNat (by omega)
  refine ⟨ret_int (IntWalk.u64_in _ (by omega)), ?_⟩
  (repeat' (first | exact Ext.refl _ | assumption | apply Ext.allocR | apply Ext.drewR | apply Ext.drewNR | (refine Ext.trans' ?_ (by assumption))))
theorem keys_bd (c : Cfg) (h : c.Ok) (l : Int) (h0 : 0 ≤ l) : 1 ≤ keys c l ∧ keys c l ≤ 576460752303423488 := pow_bd _ (by have := h.b2; omega)
def col (c : Cfg) (l key r : Int) : Int := bkt (prA c.seed l r) (prB c.seed l r) key c.width
theorem col_bd (c : Cfg) (h : 1 ≤ c.width) (l key r : Int) : 0 ≤ col c l key r ∧ col c l key r < c.width := bkt_bd _ _ _ _ h
set_option maxHeartbeats 1000000 in
theorem Column_c (c : Cfg) (h : c.Ok) (l key r : Int) (h0 : 0 ≤ l) (h1 : l ≤ 59) (hk0 : 0 ≤ key) (hk1 : key < 18446744073709551616) (hr : 0 ≤ r) (hr' : r < 8) (w : World) (b1 b2 b3 : Nat)
    (k0 : w.cell? ⟨b1, 4, none⟩ = some (.int .u64 c.seed)) (k1 : w.cell? ⟨b1, 2, none⟩ = some (.int .i64 c.width))
    (k2 : w.cell? ⟨b2, 0, none⟩ = some (.int .i64 l)) (k3 : w.cell? ⟨b3, 0, none⟩ = some (.int .u64 key)) (l1 : b1 < w.heap.size) (l2 : b2 < w.heap.size) (l3 : b3 < w.heap.size) :
    Calls Try.prog 56 #[.int .i64 r, .pointer (some ⟨b1, 0, none⟩), .pointer (some ⟨b2, 0, none⟩), .pointer (some ⟨b3, 0, none⟩)] w fun e w' => e = .returned (.int .i64 (col c l key r)) ∧ Ext w w' := by
  have hs := h.s
  have hw1 := h.w1
  have hw2 := h.w2
  go_enter Try.func56, Try.ntmps56
  go_wp2_with fail
  refine (Pair_c _ _ _ hs h0 h1 hr hr' _).mono ?_
  rintro e w1 ⟨rfl, hb⟩
  obtain ⟨hc, hf⟩ := bcell hb
  go_wp2_with fail
  refine (Bucket_c _ _ _ _ (prA_u _ _ _) (prB_u _ _ _) ⟨hk0, hk1⟩ hw1 (by omega) _).mono ?_
  rintro e w2 ⟨rfl, hb2⟩
  go_wp2
  go_ret
  exact ⟨rfl, hb.trans' hb2⟩
theorem info_int : (Try.prog.info? 3).map (fun i => (i.zero, i.size, i.bytes)) = some (some (.int .i64 0), 1, 8) := by kernel_rfl
def cols (c : Cfg) (l key : Int) : List Int := (List.range c.rows.toNat).map fun (r : Nat) => col c l key r
theorem cols_len (c : Cfg) (l key : Int) : (cols c l key).length = c.rows.toNat := by simp [cols]
set_option maxHeartbeats 2000000 in
theorem Columns_c (c : Cfg) (h : c.Ok) (l key : Int) (h0 : 0 ≤ l) (h1 : l ≤ c.bits) (hl59 : l ≤ 59) (hk0 : 0 ≤ key) (hk1 : key < keys c l) (w : World) :
    Calls Try.prog 20 #[.agg #[.int .i64 c.bits, .int .i64 c.rows, .int .i64 c.width, .int .i64 c.mode, .int .u64 c.seed], .int .i64 l, .int .u64 key] w fun e w' =>
      ∃ v, e = .returned v ∧ w'.ownsRow w.heap.size 3 1 v c.rows.toNat (ints (cols c l key)) ∧ Ext w w' := by
  have hok := h
  obtain ⟨b1, b2, r1, r2, w1, w2, m1, m2, s⟩ := h
  have hkb := keys_bd c hok l h0
  have hk64 : key < 18446744073709551616 := by omega
  obtain ⟨rn, hrn⟩ := Int.eq_ofNat_of_zero_le (show 0 ≤ c.rows by omega)
  have HR := Lib.hid hrn
  obtain ⟨ii, hi, hz0, hz1, hz2⟩ := info_parts info_int
  have hmk := fun (W : World) => run_make_ints 36 3 ii Try.underlying36 hi hz0 hz1 hz2 rn (by omega) (fun r => col c l key r) W
  rw [← hrn] at hmk
  clear hi hz0 hz1 hz2 hrn
  go_enter Try.func20, Try.ntmps20
  go_wp2
  refine wp_region_after (by kernel_rfl) (by kernel_rfl) ?_
  repeat (go_big_quiet_step ((go_at_call 55; exact quiet_after (Keys_c c hok l h0 h1 _))))
  refine wpQuiet_nil ?_
  rintro _ ⟨xx, rfl⟩
  obtain ⟨w1, hb⟩ := xx
  try dsimp only
  have k0 : w1.cell? ⟨w.heap.size, 4, none⟩ = some (.int .u64 c.seed) := by rw [(bcell hb).1 _ _ (by simp [go_sem])]; simp [go_sem]
  have k1 : w1.cell? ⟨w.heap.size, 2, none⟩ = some (.int .i64 c.width) := by rw [(bcell hb).1 _ _ (by simp [go_sem])]; simp [go_sem]
  have k2 : w1.cell? ⟨w.heap.size + 1, 0, none⟩ = some (.int .i64 l) := by rw [(bcell hb).1 _ _ (by simp [go_sem])]; simp [go_sem]
  have k3 : w1.cell? ⟨w.heap.size + 1 + 1, 0, none⟩ = some (.int .u64 key) := by rw [(bcell hb).1 _ _ (by simp [go_sem])]; simp [go_sem]
  have k4 : w1.cell? ⟨w.heap.size, 1, none⟩ = some (.int .i64 c.rows) := by rw [(bcell hb).1 _ _ (by simp [go_sem])]; simp [go_sem]
  have hsz : w.heap.size + 1 + 1 < w1.heap.size := by have := hb.size; simp only [size_alloc] at this; omega
  have hw : Ext w w1 := by (repeat' (first | exact Ext.refl _ | assumption | apply Ext.allocR | apply Ext.drewR | apply Ext.drewNR | (refine Ext.trans' ?_ (by assumption))))
  clear hb
  go_wp2
  have hrr : (rn : Int) ≤ 8 := by rw [← HR.out]; exact r2
  clear hmk r1 r2 b1 b2 m1 m2 hk1 hkb
  go_loopw [21] (fun v wr => ∃ k : Nat, k ≤ rn ∧ v = .int .i64 k ∧ Ext w1 wr ∧ w1.heap.size < wr.heap.size ∧ wr.heap[w1.heap.size]? = some (.cells (fillA (fun r => col c l key r) k rn) 3 (0, 0))) (fun v _ => rn - (intOf v).toNat)
  case atStart =>
    exact ⟨0, Nat.zero_le _, rfl, Ext.alloc' _ _, by simp only [size_alloc]; omega, heap_at _ _ rfl⟩
  case round =>
    obtain ⟨k, hk, rfl, hx, hlt, hg⟩ := hrel
    by_cases hlt2 : k < rn
    · have c0 := (bcell hx).1
      have l1 : w.heap.size < wr.heap.size := by omega
      have l2 : w.heap.size + 1 < wr.heap.size := by omega
      have l3 : w.heap.size + 1 + 1 < wr.heap.size := by omega
      have q0 := (c0 _ 4 (by omega)).trans k0
      have q1 := (c0 _ 2 (by omega)).trans k1
      have q2 := (c0 _ 0 (by omega)).trans k2
      have q3 := (c0 _ 0 (by omega)).trans k3
      clear c0
      have HG := Lib.hid hg
      clear hg
      go_wp2_with fail
      refine (Column_c c hok l key k h0 hl59 hk0 hk64 (by omega) (by omega) _ _ _ _ q0 q1 q2 q3 l1 l2 l3).mono ?_
      rintro e w2 ⟨rfl, hb2⟩
      have hg2 := hb2.keep HG.out
      obtain ⟨v0, d0⟩ : ∃ v0, w2.cell? ⟨w1.heap.size, k, none⟩ = some v0 := ⟨_, (cell_of hg2 k).trans (fillA_at _ _ _ _ hlt2)⟩
      have d1 := frozen_of hg2 k
      have HG2 := Lib.hid hg2
      clear hg2
      go_wp2
      go_roundw
      case rel => exact ⟨k + 1, by omega, by go_num, (hx.trans' hb2).setR (Nat.le_refl _) _, by have := hb2.size; rw [size_setCell]; omega, by rw [setCell_same HG2.out, fillA_set]⟩
      case measure => simp [intOf]; omega
    · have HG := Lib.hid hg
      clear hg
      go_wp2
      go_ret
      obtain rfl : k = rn := by omega
      refine ⟨_, rfl, ?_, hw.trans' hx⟩
      have e : c.rows.toNat = k := by rw [HR.out]; rfl
      unfold cols
      rw [e]
      exact ownsRow_of HG.out (by omega) (Nat.le_refl _) (by unfold maxLen; omega) (fillA_size _ _ _) (by rw [fillA_done]; exact List.take_of_length_le (by simp [ints]))
end Go.Proofs.Ythancaehlijaoaa
