/- Part. No condition. -/
import Derived.Test.YteoblkcbemeamaaGreatL1
import Derived.Test.YteoblkcbemeamaaGreatL14
import Derived.Test.YteoblkcbemeamaaGreatL6
import Derived.Test.YteoblkcbemeamaaGreatL15
import Derived.Test.YteoblkcbemeamaaGreatL4
import Derived.Test.YteoblkcbemeamaaGreatL18
import Derived.Test.YteoblkcbemeamaaGreatL8

/- gaugerref14.two: a power of two. -/
namespace Go.Proofs.YteoblkcbemeamaaGreat
set_option linter.unusedVariables false
open Go.RowKit
theorem two_bd (k : Nat) (h : k ≤ 59) : (1 : Int) ≤ 2 ^ k ∧ (2 : Int) ^ k ≤ 576460752303423488 := pow_bd k h
set_option maxRecDepth 20000 in
set_option maxHeartbeats 2000000 in
theorem TwoR_c (n : Nat) (hn : n ≤ 59) (w : World) :
    Calls Tryz.prog 141 #[.int .i64 n] w fun e w' => e = .returned (.int .u64 ((2 : Int) ^ n)) ∧ w = w' := by
  go_enter Tryz.func141, Tryz.ntmps141
  go_wp2
  go_loop [3, 4] (fun p u => ∃ (k : Nat) (q : Int), k ≤ n ∧ p = .int .u64 q ∧ u = .int .i64 k ∧ q = (2 : Int) ^ k) (fun _ u => n - (intOf u).toNat)
  case atStart => exact ⟨0, 1, Nat.zero_le _, rfl, rfl, rfl⟩
  case round =>
    obtain ⟨k, q, hk, rfl, rfl, hq⟩ := hrel
    have hb := two_bd k (by omega)
    rw [← hq] at hb
    obtain ⟨b1, b2⟩ := hb
    have HQ := Lib.hid hq
    clear hq
    by_cases hlt : k < n
    · have hlt' : (k : Int) < n := by omega
      go_wp2
      go_round
      case rel => exact ⟨k + 1, q + q, by omega, rfl, by push_cast; rfl, by rw [HQ.out, Int.pow_succ]; omega⟩
      case measure => simp [intOf]; omega
    · obtain rfl : k = n := by omega
      go_wp2
      go_ret
      exact ⟨by rw [← HQ.out]; rfl, rfl⟩
end Go.Proofs.YteoblkcbemeamaaGreat

/- gaugerref14.Cover, walked. -/
namespace Go.Proofs.YteoblkcbemeamaaGreat
set_option linter.unusedVariables false
open Go.RowKit
theorem gLev_bd {lo hi : Int} : ∀ (f l : Nat), (2 : Int) ^ l - 1 ≤ hi - lo → gLev lo hi f l ≤ l + f ∧ (2 : Int) ^ gLev lo hi f l - 1 ≤ hi - lo
  | 0, l, h => ⟨Nat.le_refl _, h⟩
  | f + 1, l, h => by
    unfold gLev
    by_cases hc : lo % 2 ^ (l + 1) = 0 ∧ 2 ^ (l + 1) - 1 ≤ hi - lo
    · rw [if_pos hc]
      have := gLev_bd f (l + 1) hc.2
      exact ⟨by omega, this.2⟩
    · rw [if_neg hc]
      exact ⟨by omega, h⟩
theorem gLev_step {lo hi : Int} {B l : Nat} (hl : l < B) (hc : lo % 2 ^ (l + 1) = 0 ∧ (2 : Int) ^ (l + 1) - 1 ≤ hi - lo) : gLev lo hi (B - l) l = gLev lo hi (B - (l + 1)) (l + 1) := by
  rw [show B - l = (B - (l + 1)) + 1 by omega]
  conv => lhs; unfold gLev
  rw [if_pos hc]
theorem gLev_stop {lo hi : Int} {B l : Nat} (hlB : l ≤ B) (hc : ¬ (l < B ∧ lo % 2 ^ (l + 1) = 0 ∧ (2 : Int) ^ (l + 1) - 1 ≤ hi - lo)) : gLev lo hi (B - l) l = l := by
  rcases Nat.lt_or_ge l B with hl | hl
  · rw [show B - l = (B - (l + 1)) + 1 by omega]
    conv => lhs; unfold gLev
    rw [if_neg (fun h2 => hc ⟨hl, h2⟩)]
  · rw [show B - l = 0 by omega]
    rfl
theorem gCov_out {B : Nat} {hi lo : Int} (h : hi < lo) : ∀ f, gCov B hi f lo = []
  | 0 => rfl
  | f + 1 => by unfold gCov; rw [if_neg (by omega)]
def RCovPost (w : World) (B : Nat) (lo hi : Int) (e : Ending) (w' : World) : Prop :=
  ((hi < lo ∨ 2 ^ B ≤ hi) ∧ ∃ v, e = .returned (.tuple #[v, .bool false]) ∧ Ext w w') ∨
  ((lo ≤ hi ∧ hi < 2 ^ B) ∧ ∃ v, e = .returned (.tuple #[v, .bool true]) ∧ w'.ownsRow w.heap.size 39 2 v (covL B 0 lo hi).length (pcV (covL B 0 lo hi)) ∧ Ext w w')
set_option maxRecDepth 20000 in
set_option maxHeartbeats 8000000 in
theorem RCover_c (B : Nat) (hB1 : 1 ≤ B) (hB2 : B ≤ 59) (lo hi : Int) (hlo : U64 lo) (hhi : U64 hi) (w : World) :
    Calls Tryz.prog 91 #[.int .i64 B, .int .u64 lo, .int .u64 hi] w (RCovPost w B lo hi) := by
  obtain ⟨hlo0, hlo1⟩ := hlo
  obtain ⟨hhi0, hhi1⟩ := hhi
  have hpw := pow_bd B hB2
  have hb1' : (1 : Int) ≤ B := by omega
  by_cases h1 : hi < lo
  · go_enter Tryz.func91, Tryz.ntmps91
    go_wp2
    go_ret2
    exact .inl ⟨.inl h1, _, rfl, Ext.alloc' _ _⟩
  · have HTW := Lib.hid (fun W' => TwoR_c B hB2 W')
    by_cases h2 : 2 ^ B ≤ hi
    · have H2 := Lib.hid h2
      obtain ⟨p, hpp⟩ : ∃ p, (2 : Int) ^ B = p := ⟨_, rfl⟩
      rw [hpp] at hpw h2
      have hHT : ∀ W' : World, Calls Tryz.prog 141 #[.int .i64 B] W' fun e w' => e = .returned (.int .u64 p) ∧ W' = w' := fun W' => by rw [← hpp]; exact TwoR_c B hB2 W'
      have HHT := Lib.hid hHT
      clear hpp hHT HTW
      go_enter Tryz.func91, Tryz.ntmps91
      go_wp2_with fail
      refine (HHT.out _).mono ?_
      rintro e w1 ⟨rfl, rfl⟩
      go_wp2
      go_ret2
      exact .inl ⟨.inr H2.out, _, rfl, Ext.alloc' _ _⟩
    · have HF := Lib.hid (show (lo ≤ hi ∧ hi < 2 ^ B) from ⟨by omega, by omega⟩)
      obtain ⟨f0, hf0⟩ : ∃ f0 : Nat, f0 = (hi + 1 - lo).toNat + 2 * B + 2 := ⟨_, rfl⟩
      have HST := Lib.hid (cov_same hlo0 HF.out.1 HF.out.2 (f := f0) (by omega))
      have hf0' : hi + 1 - lo < f0 := by omega
      have HB59 := Lib.hid hB2
      obtain ⟨i0, z0, hi0, hz0, hz1, hz2, hzs⟩ := info_pc
      obtain ⟨p, hpp⟩ : ∃ p, (2 : Int) ^ B = p := ⟨_, rfl⟩
      rw [hpp] at hpw h2
      have hHT : ∀ W' : World, Calls Tryz.prog 141 #[.int .i64 B] W' fun e w' => e = .returned (.int .u64 p) ∧ W' = w' := fun W' => by rw [← hpp]; exact TwoR_c B hB2 W'
      have HHT := Lib.hid hHT
      clear hf0 hpp hHT HTW
      go_enter Tryz.func91, Tryz.ntmps91
      go_wp2_with fail
      refine (HHT.out _).mono ?_
      rintro e w1 ⟨rfl, rfl⟩
      have ho0 : (w.alloc (.cells #[] 39)).ownsRow w.heap.size 39 2 (.slice (some ⟨w.heap.size, 0, none⟩) 0 0) ([] : List (Nat × Int)).length (pcV []) := ⟨rfl, .inr ⟨w.heap.size, 0, #[], rfl, Nat.le_refl _, heap_at _ _ rfl, Nat.le_refl _, Nat.zero_le _, rfl, rfl⟩⟩
      have HO0 := Lib.hid ho0
      clear ho0
      go_wp2_with fail
      go_loopw [1, 8] (fun u1 u8 wr => ∃ (a : Int) (f : Nat) (pre : List (Nat × Int)), u1 = .int .u64 a ∧ 0 ≤ a ∧ a ≤ hi + 1 ∧ hi + 1 - a < f ∧ pre ++ gCov B hi f a = covL B 0 lo hi ∧ wr.ownsRow w.heap.size 39 2 u8 pre.length (pcV pre) ∧ Ext w wr) (fun u1 _ _ => (hi + 1 - intOf u1).toNat)
      case atStart => exact ⟨lo, f0, [], rfl, hlo0, by omega, hf0', by rw [List.nil_append]; exact HST.out, HO0.out, Ext.alloc' _ _⟩
      case round =>
        clear HO0 HST hf0'
        obtain ⟨a, f, pre, rfl, ha0, ha1, hf, hcov, hown, hE⟩ := hrel
        obtain ⟨pv, cv, rfl⟩ := own_sl hown
        have HO := Lib.hid hown
        have HE := Lib.hid hE
        have hlen : pre.length ≤ 1000000000 := by
          have h3 := congrArg List.length hcov
          rw [List.length_append] at h3
          have h4 := cov_len B 0 lo hi
          omega
        have HLEN := Lib.hid hlen
        clear hown hlen
        by_cases hgo : a ≤ hi
        · obtain ⟨f, rfl⟩ : ∃ f', f = f' + 1 := ⟨f - 1, by omega⟩
          have hgc : gCov B hi (f + 1) a = (gLev a hi B 0, a / 2 ^ gLev a hi B 0) :: gCov B hi f (a + 2 ^ gLev a hi B 0) := by
            conv => lhs; unfold gCov
            rw [if_pos hgo]
          rw [hgc] at hcov
          have HC := Lib.hid hcov
          clear hcov hgc
          go_wp2_with fail
          go_loopw [9] (fun u9 wx => ∃ l : Nat, u9 = .int .i64 l ∧ l ≤ B ∧ gLev a hi (B - l) l = gLev a hi B 0 ∧ (2 : Int) ^ l - 1 ≤ hi - a ∧ wx = wr) (fun u9 _ => B - (intOf u9).toNat)
          case atStart => exact ⟨0, rfl, Nat.zero_le _, rfl, by show (1 : Int) - 1 ≤ _; omega, rfl⟩
          case round =>
            obtain ⟨l, rfl, hlB, hgl, hbd, rfl⟩ := hrel
            rename World => wr
            have HGL := Lib.hid hgl
            have HBD := Lib.hid hbd
            clear hgl hbd
            go_upto_region 6 with (fail)
            go_cut [52] (fun s52 wx => s52 = .bool (decide (l < B ∧ a % 2 ^ (l + 1) = 0 ∧ (2 : Int) ^ (l + 1) - 1 ≤ hi - a)) ∧ wx = wr)
            case first =>
              by_cases hl : l < B
              · have hlz : (l : Int) < B := by omega
                have hqb := pow_bd (l + 1) (by omega)
                have hT : ∀ W' : World, Calls Tryz.prog 141 #[.int .i64 ((l : Int) + 1)] W' fun e w' => e = .returned (.int .u64 ((2 : Int) ^ (l + 1))) ∧ W' = w' := fun W' => by
                  have h := TwoR_c (l + 1) (by omega) W'
                  rwa [show ((l + 1 : Nat) : Int) = (l : Int) + 1 by omega] at h
                have HT := Lib.hid hT
                clear hT
                generalize (2 : Int) ^ (l + 1) = q at *
                have hq0 : (q == 0) = false := by simp; omega
                have htm : a.tmod q = a % q := Int.tmod_eq_emod_of_nonneg ha0
                by_cases hm : a % q = 0
                · have hm' : (a % q == 0) = true := by simpa using hm
                  have hz : a.tmod q = 0 := htm.trans hm
                  go_wp2_with (go_at_call 141; refine (HT.out _).mono ?_; rintro e w1 ⟨rfl, rfl⟩)
                  go_meet
                  refine ⟨congrArg Value.bool ?_, rfl⟩
                  by_cases hx : q - 1 ≤ hi - a
                  · simp [hl, hm, hx]
                  · simp [hl, hm, hx]
                · have hm' : (a % q == 0) = false := by simpa using hm
                  go_wp2_with (go_at_call 141; refine (HT.out _).mono ?_; rintro e w1 ⟨rfl, rfl⟩)
                  go_meet
                  exact ⟨congrArg Value.bool (decide_eq_false (fun h => hm h.2.1)).symm, rfl⟩
              · have hlz : ¬ (l : Int) < B := by omega
                go_wp2_with fail
                go_meet
                exact ⟨congrArg Value.bool (decide_eq_false (fun h => hl h.1)).symm, rfl⟩
            case rest =>
              obtain ⟨rfl, rfl⟩ := hcut
              rename World => wr
              by_cases hc : l < B ∧ a % 2 ^ (l + 1) = 0 ∧ (2 : Int) ^ (l + 1) - 1 ≤ hi - a
              · rw [decide_eq_true hc]
                have HCC := Lib.hid hc
                have hl := hc.1
                clear hc
                go_wp2_with fail
                go_roundw
                case rel =>
                  exact ⟨l + 1, by go_num, hl, (gLev_step hl HCC.out.2).symm.trans HGL.out, HCC.out.2.2, by first | rfl | trivial⟩
                case measure => simp [intOf]; omega
              · rw [decide_eq_false hc]
                have hlev : gLev a hi B 0 = l := HGL.out.symm.trans (gLev_stop hlB hc)
                have hcv := HC.out
                rw [hlev] at hcv
                have hqb := pow_bd l (by omega)
                have hbd := HBD.out
                have hT : ∀ W' : World, Calls Tryz.prog 141 #[.int .i64 l] W' fun e w' => e = .returned (.int .u64 ((2 : Int) ^ l)) ∧ W' = w' := fun W' => TwoR_c l (by omega) W'
                have HT := Lib.hid hT
                clear hc hlev hT HC HBD HGL
                generalize (2 : Int) ^ l = q at *
                have hq0 : (q == 0) = false := by simp; omega
                have htd : a.tdiv q = a / q := Int.tdiv_eq_ediv_of_nonneg ha0
                have hm0 : 0 ≤ a / q := Int.ediv_nonneg ha0 (by omega)
                have hm1 : a / q ≤ a := Int.ediv_le_self _ ha0
                generalize a / q = m at *
                have hm2 : m < 18446744073709551616 := by omega
                have HCV := Lib.hid hcv
                clear hcv
                go_wp2_with fail
                refine (HT.out _).mono ?_
                rintro e w1 ⟨rfl, rfl⟩
                go_wp2_with (at_builtin; refine wpList_appp _ (l, m) pre _ w.heap.size 39 39 HO.out 73 rfl _ _ rfl i0 z0 hi0 hz0 hz1 hz2 hzs Tryz.underlying73 rfl rfl HLEN.out HE.out.size ?_)
                intro v' w2 hw1 hw2 hw3
                have hE2 : Ext w w2 := ext_grown HE.out hw2 (fun k hk => own_blk HO.out hk)
                obtain ⟨pv2, cv2, rfl⟩ := own_sl hw1
                have HW1 := Lib.hid hw1
                clear hw1 hw2 hw3
                go_wp2_with fail
                refine (HT.out _).mono ?_
                rintro e w3 ⟨rfl, rfl⟩
                go_wp2_with fail
                go_roundw
                case rel =>
                  refine ⟨a + q, f, pre ++ [(l, m)], by go_num, by omega, by omega, by omega, ?_, by rw [List.length_append]; exact HW1.out, hE2⟩
                  rw [List.append_assoc]; exact HCV.out
                case measure => simp [intOf]; omega
        · have hc : pre = covL B 0 lo hi := by rw [← hcov, gCov_out (by omega), List.append_nil]
          have HC := Lib.hid hc
          clear hcov hc
          go_wp2
          go_ret2
          exact .inr ⟨HF.out, _, rfl, by rw [← HC.out]; exact HO.out, HE.out⟩
end Go.Proofs.YteoblkcbemeamaaGreat

/- gaugerref12: an array of the references. -/
namespace Go.Proofs.YteoblkcbemeamaaGreat
set_option linter.unusedVariables false
open Go.RowKit
theorem run_make_intsU {P : Program} (t e : TypeId) (i : TypeInfo) (ht : P.underlying t = some (.slice e)) (hi : P.info? e = some i) (hz : i.zero = some (.int .i64 0)) (hs : i.size = 1) (hb : i.bytes = 8)
    (n : Nat) (hn : n ≤ 1000000) (f : Nat → Int) (w : World) :
    (Instr.makeSlice t (.int .u64 (n : Int)) (.int .u64 (n : Int))).run P w = .ok (.slice (some ⟨w.heap.size, 0, none⟩) n n) (w.alloc (.cells (fillA f 0 n) e)) := by
  have h := run_make w t e i (.int .i64 0) ht hi hz .u64 .u64 n n (by omega) (by omega) (by rw [hb]; omega) (by omega)
  simp only [Int.toNat_natCast] at h
  rw [h, hs]
  congr 3
  apply Array.ext
  · rw [size_madeCells, fillA_size]; omega
  · intro j h1 h2
    rw [fillA_size] at h2
    simp [madeCells, fillA, Value.cells, Nat.mod_one]
def RXNewPost (w : World) (C : Cfg) (lv : Int) (N : Nat) (l : List Int) (e : Ending) (w' : World) : Prop :=
  ∃ a m, e = .returned (.pointer (some ⟨a, 0, none⟩)) ∧ RXAt w' a m C lv N l ∧ w.heap.size ≤ a ∧ w.heap.size ≤ m ∧ Ext w w'
set_option maxRecDepth 20000 in
set_option maxHeartbeats 4000000 in
theorem RXNew_c (C : Cfg) (lv : Int) (N : Nat) (h1 : 1 ≤ N) (h2 : N ≤ 128) (w : World) :
    Calls Tryz.prog 108 #[.agg #[.int .i64 C.bits, .int .i64 C.rows, .int .i64 C.width, .int .i64 C.mode, .int .u64 C.seed], .int .i64 lv, .int .u64 N] w (RXNewPost w C lv N (zs N)) := by
  obtain ⟨ii, hi, hz0, hz1, hz2⟩ := info_parts info_i64
  have hmk := fun (x : World) => run_make_intsU 43 2 ii Tryz.underlying43 hi hz0 hz1 hz2 N (by omega) (fun _ => 0) x
  have hm1 : ((128 : Int) < (N : Int)) = False := by simp; omega
  have hm2 : decide ((128 : Int) < (N : Int)) = false := by simp; omega
  have hm3 : (N : Int) ≤ 128 := by omega
  clear hi hz0 hz1 hz2
  obtain ⟨W, hW⟩ : ∃ W, w.alloc (.cells #[.int .i64 C.bits, .int .i64 C.rows, .int .i64 C.width, .int .i64 C.mode, .int .u64 C.seed] 24) = W := ⟨_, rfl⟩
  have hC : CfgAt W w.heap.size C := by rw [← hW]; exact CfgAt.box C _ rfl
  have hE : Ext w W := by rw [← hW]; exact Ext.alloc' _ _
  have c0 := hC.c0
  have c1 := hC.c1
  have c2 := hC.c2
  have c3 := hC.c3
  have c4 := hC.c4
  have cl := hC.lt
  have hsz := hE.size
  go_enter Tryz.func108, Tryz.ntmps108
  go_wp2_with fail
  try rw [hW]
  clear hW
  have hC0 := af_drew W
  refine pi_start (fun w' => ∃ z : After W, w' = z.w) [] (by kernel_rfl) ?_
  refine pi_t 1 rfl (by kernel_rfl) (by kernel_rfl) (fun _ _ _ _ h => h) (fun K hK => ?_)
  go_big_quiet_op
  refine hK _ ?_
  clear hK K
  refine pi_t 2 rfl (by kernel_rfl) (by kernel_rfl) (fun _ _ _ _ h => h) (fun K hK => ?_)
  go_big_quiet_op
  refine hK _ ?_
  clear hK K
  refine pi_t 3 rfl (by kernel_rfl) (by kernel_rfl) (fun _ _ _ _ h => h) (fun K hK => ?_)
  go_big_quiet_op
  refine hK _ ?_
  clear hK K
  refine pi_c 0 (by assumption) rfl (by kernel_rfl) (by kernel_rfl) (fun _ _ _ _ h => h) (fun K hK => ?_)
  go_big_quiet_op
  refine hK _ ?_
  clear hK K
  refine pi_l 4 rfl (by kernel_rfl) (fun K hK => ?_)
  go_wp2
  refine hK _ _ (fun _ h => af_step h (Ext.alloc' _ _)) ?_
  clear hK K
  refine pi_t 5 rfl (by kernel_rfl) (by kernel_rfl) (fun _ _ _ _ h => h) (fun K hK => ?_)
  go_big_quiet_op
  refine hK _ ?_
  clear hK K
  refine pi_l 6 rfl (by kernel_rfl) (fun K hK => ?_)
  go_wp2
  refine hK _ _ (fun _ h => af_step h (Ext.alloc' _ _)) ?_
  clear hK K
  refine pi_t 7 rfl (by kernel_rfl) (by kernel_rfl) (fun _ _ _ _ h => h) (fun K hK => ?_)
  go_big_quiet_op
  refine hK _ ?_
  clear hK K
  refine pi_end (by kernel_rfl) ?_
  go_wp2
  go_ret
  refine ⟨_, W.heap.size, rfl, ⟨⟨N, heap_at _ _ (size_alloc _ _).symm, Nat.le_refl _⟩, ⟨fillA (fun _ => 0) 0 N, ?_, fun k hk => ?_⟩, zs_len _, h1, h2, fun x hx => ?_⟩, ?_, hsz, ((hE.drewR).allocR _).allocR _⟩
  · show ((W.alloc _).alloc _).heap[_]? = _
    rw [heap_old _ _ (by rw [size_alloc]; exact Nat.lt_succ_self _)]
    exact heap_at _ _ rfl
  · rw [fillA_at _ _ _ _ hk, if_neg (Nat.not_lt_zero _), zs_get0]
  · simp only [zs, List.mem_replicate] at hx
    rw [hx.2]
    unfold I64; omega
  · exact Nat.le_trans hsz (Nat.le_succ _)
set_option maxRecDepth 20000 in
set_option maxHeartbeats 4000000 in
theorem RXCopy_c (a m : Nat) (C : Cfg) (lv : Int) (N : Nat) (l : List Int) (w : World) (h : RXAt w a m C lv N l) :
    Calls Tryz.prog 112 #[.pointer (some ⟨a, 0, none⟩)] w (RXNewPost w C lv N l) := by
  obtain ⟨cap, hex, hcap⟩ := h.ex
  have c0 := (cell_of hex 0).trans rfl
  have c1 := (cell_of hex 1).trans rfl
  have c2 := (cell_of hex 2).trans rfl
  have c3 := (cell_of hex 3).trans rfl
  have c4 := (cell_of hex 4).trans rfl
  have c5 := (cell_of hex 5).trans rfl
  have c6 := (cell_of hex 6).trans rfl
  have la := h.lta
  have lm := h.ltm
  have k1 := h.k1
  have k2 := h.k2
  have hlen := h.len
  have HF := Lib.hid h.fit
  have hcell : ∀ W : World, Ext w W → ∀ k, k < N → W.cell? ⟨m, 0 + k, none⟩ = some (.int .i64 (l.getD k 0)) := fun W hW k hk => by rw [(bcell hW).1 _ _ lm, Nat.zero_add]; exact h.cell hk
  have HC := Lib.hid hcell
  have HL := Lib.hid hlen
  clear hcell h hex hlen
  go_enter Tryz.func112, Tryz.ntmps112
  go_wp2_with fail
  have hC0 := af_drew w
  refine pi_start (fun w' => ∃ z : After w, w' = z.w) [] (by kernel_rfl) ?_
  refine pi_t 0 rfl (by kernel_rfl) (by kernel_rfl) (fun _ _ _ _ h => h) (fun K hK => ?_)
  go_big_quiet_op
  refine hK _ ?_
  clear hK K
  refine pi_t 1 rfl (by kernel_rfl) (by kernel_rfl) (fun _ _ _ _ h => h) (fun K hK => ?_)
  go_big_quiet_op
  refine hK _ ?_
  clear hK K
  refine pi_t 2 rfl (by kernel_rfl) (by kernel_rfl) (fun _ _ _ _ h => h) (fun K hK => ?_)
  go_big_quiet_op
  refine hK _ ?_
  clear hK K
  refine pi_t 4 rfl (by kernel_rfl) (by kernel_rfl) (fun _ _ _ _ h => h) (fun K hK => ?_)
  go_big_quiet_op
  refine hK _ ?_
  clear hK K
  refine pi_t 5 rfl (by kernel_rfl) (by kernel_rfl) (fun _ _ _ _ h => h) (fun K hK => ?_)
  go_big_quiet_op
  refine hK _ ?_
  clear hK K
  refine pi_t 6 rfl (by kernel_rfl) (by kernel_rfl) (fun _ _ _ _ h => h) (fun K hK => ?_)
  go_big_quiet_op
  refine hK _ ?_
  clear hK K
  refine pi_t 9 rfl (by kernel_rfl) (by kernel_rfl) (fun _ _ _ _ h => h) (fun K hK => ?_)
  go_big_quiet_op
  refine hK _ ?_
  clear hK K
  refine pi_t 10 rfl (by kernel_rfl) (by kernel_rfl) (fun _ _ _ _ h => h) (fun K hK => ?_)
  go_big_quiet_op
  refine hK _ ?_
  clear hK K
  refine pi_t 11 rfl (by kernel_rfl) (by kernel_rfl) (fun _ _ _ _ h => h) (fun K hK => ?_)
  go_big_quiet_op
  refine hK _ ?_
  clear hK K
  refine pi_c 3 (by assumption) rfl (by kernel_rfl) (by kernel_rfl) (fun _ _ _ _ h => h) (fun K hK => ?_)
  go_big_quiet_op
  refine hK _ ?_
  clear hK K
  refine pi_c 7 (by assumption) rfl (by kernel_rfl) (by kernel_rfl) (fun _ _ _ _ h => h) (fun K hK => ?_)
  go_big_quiet_op
  refine hK _ ?_
  clear hK K
  refine pi_c 12 (by assumption) rfl (by kernel_rfl) (by kernel_rfl) (fun _ _ _ _ h => h) (fun K hK => ?_)
  go_big_quiet_op
  refine hK _ ?_
  clear hK K
  refine pi_l 8 rfl (by kernel_rfl) (fun K hK => ?_)
  go_wp2
  refine hK _ _ (fun _ h => af_step h (Ext.alloc' _ _)) ?_
  clear hK K
  have hE1 : Ext w (w.alloc (.cells #[] 2)).drew := ((Ext.refl w).allocR _).drewR
  have hown : (w.alloc (.cells #[] 2)).drew.ownsRow w.heap.size 2 1 (.slice (some ⟨w.heap.size, 0, none⟩) 0 0) ([] : List Int).length (ints []) := own_drew (own_empty w 2)
  generalize (w.alloc (.cells #[] 2)).drew = W at *
  refine pi_l 13 rfl (by kernel_rfl) (fun K hK => ?_)
  go_wp2_with (at_builtin; refine wpList_appl W l [] _ w.heap.size 2 hown 43 rfl _ _ rfl info_i64 Tryz.underlying43 (by rfl) m 0 N cap (by rfl) HL.out.symm (HC.out W hE1) ?a1 ?a2 ?_)
  case a1 => show 0 + N ≤ _; omega
  case a2 => exact hE1.size
  intro v' w' g1 g2 g3
  have hE2 : Ext w w' := ext_grown0 hE1 g2 (fun i hi => own_blk hown hi)
  have hE2' : ∃ z : After w, w' = z.w := ⟨⟨w', hE2⟩, rfl⟩
  obtain ⟨z, zc, cur, rfl, hzc, hz, hzh, hzcur⟩ := own_row1 g1 (by show 0 < l.length; rw [HL.out]; omega)
  rw [HL.out] at hzc hzcur ⊢
  have HZ := Lib.hid (And.intro hzc (And.intro hz (And.intro hzh hzcur)))
  have hs2 := hE2.size
  clear g1 g2 g3 hown hzc hz hzh hzcur
  go_wp2
  refine hK _ _ (fun _ _ => hE2') ?_
  clear hK K
  refine pi_t 14 rfl (by kernel_rfl) (by kernel_rfl) (fun _ _ _ _ h => h) (fun K hK => ?_)
  go_big_quiet_op
  refine hK _ ?_
  clear hK K
  refine pi_l 15 rfl (by kernel_rfl) (fun K hK => ?_)
  go_wp2
  refine hK _ _ (fun _ h => af_step h (Ext.alloc' _ _)) ?_
  clear hK K
  refine pi_t 16 rfl (by kernel_rfl) (by kernel_rfl) (fun _ _ _ _ h => h) (fun K hK => ?_)
  go_big_quiet_op
  refine hK _ ?_
  clear hK K
  refine pi_end (by kernel_rfl) ?_
  go_wp2
  go_ret
  obtain ⟨q1, q2, q3, q4⟩ := HZ.out
  exact ⟨_, z, rfl, ⟨⟨zc, heap_at _ _ rfl, q1⟩, ⟨cur, (Ext.alloc' _ _).keep q3, fun k hk => q4 k hk⟩, HL.out, k1, k2, HF.out⟩, hs2, q2, hE2.allocR _⟩
theorem key_nat {key : Int} (h0 : 0 ≤ key) : ∃ k : Nat, key = k := ⟨key.toNat, by omega⟩
def RXUpdPost (w : World) (a m : Nat) (C : Cfg) (lv : Int) (N : Nat) (l : List Int) (key d : Int) (e : Ending) (w' : World) : Prop :=
  e = .returned (.int .i64 (errX C lv l key d)) ∧ ((errX C lv l key d = 0 ∧ RXAt w' a m C lv N (updX l key d) ∧ Mod (fun k => k = m) w w') ∨ (errX C lv l key d ≠ 0 ∧ Ext w w'))
set_option maxRecDepth 20000 in
set_option maxHeartbeats 4000000 in
theorem RXUpdate_c (a m : Nat) (C : Cfg) (lv : Int) (N : Nat) (l : List Int) (key d : Int) (w : World) (h : RXAt w a m C lv N l) (hkn : keys C lv = N) (hd : I64 d) (hk : U64 key) :
    Calls Tryz.prog 114 #[.pointer (some ⟨a, 0, none⟩), .int .u64 key, .int .i64 d] w (RXUpdPost w a m C lv N l key d) := by
  obtain ⟨hk0, hk1⟩ := hk
  obtain ⟨key, rfl⟩ := key_nat hk0
  obtain ⟨cap, hex, hcap⟩ := h.ex
  have c3 := (cell_of hex 3).trans rfl
  have c6 := (cell_of hex 6).trans rfl
  have la := h.lta
  have lm := h.ltm
  have k2 := h.k2
  have HH := Lib.hid h
  have HKK := Lib.hid hkn
  have HD := Lib.hid hd
  clear h hex hd
  by_cases hge : N ≤ key
  · have he : errX C lv l key d = 2 := errX_key (by omega)
    unfold RXUpdPost
    rw [he]
    have hge' : decide ((N : Int) ≤ (key : Int)) = true := by simp; omega
    clear hkn
    go_enter Tryz.func114, Tryz.ntmps114
    go_wp2
    go_ret
    exact ⟨rfl, by first | exact .inr ⟨by decide, Ext.refl _⟩ | exact Ext.refl _⟩
  · have hlt : key < N := by omega
    have cx := HH.out.cell hlt
    have fx := HH.out.frz key
    have hI := getD_i64 HH.out.fit key
    have hset := fun x (hx : I64 x) => HH.out.set hlt hx
    have HSET := Lib.hid hset
    have hne := HH.out.ne
    have HNE := Lib.hid hne
    have he := fun hn => errX_sum (C := C) (lv := lv) (l := l) (key := (key : Int)) (d := d) (by omega) hn
    have he2 := fun hm hn => errX_neg (C := C) (lv := lv) (l := l) (key := (key : Int)) (d := d) (by omega) hm hn
    have hu : updX l (key : Int) d = l.set key (l.getD key 0 + d) := by unfold updX; rw [Int.toNat_natCast]
    rw [Int.toNat_natCast] at he
    unfold RXUpdPost
    rw [hu]
    have HE := Lib.hid he
    have HE2 := Lib.hid he2
    have HI := Lib.hid hI
    generalize l.getD key 0 = x at *
    generalize errX C lv l key d = er at *
    have HLT := Lib.hid hlt
    have hlt3 : (key : Int) < (N : Int) := by omega
    have hlt4 : ¬ ((N : Int) ≤ (key : Int)) := by omega
    clear hge hu he he2 hset hne hI hkn hlt
    by_cases hmd : C.mode = 2 ∧ d < 0
    · obtain ⟨hm, hdn⟩ := hmd
      rw [HE2.out hm hdn]
      rw [hm] at c3
      clear hm
      go_enter Tryz.func114, Tryz.ntmps114
      go_wp2
      go_ret
      exact ⟨rfl, by first | exact .inr ⟨by decide, Ext.refl _⟩ | exact Ext.refl _⟩
    · have herr := HE.out hmd
      rw [herr]
      clear herr
      have hA : ∀ w', Calls Tryz.prog 151 #[.int .i64 x, .int .i64 d] w' fun e w'' => e = .returned (.tuple #[.int .i64 (fitN (x + d)), .bool (fitB (x + d))]) ∧ Ext w' w'' := fun w' => LAdd_c x d HI.out HD.out w'
      have HA := Lib.hid hA
      clear hA
      have fin : ∀ w1, Ext w w1 → w1.cell? ⟨a, 6, none⟩ = some (.slice (some ⟨m, 0, none⟩) N cap) ∧ w1.frozen? ⟨m, key, none⟩ = false ∧ (∃ v, w1.cell? ⟨m, key, none⟩ = some v) ∧ a < w1.heap.size ∧ m < w1.heap.size := fun w1 hx =>
        ⟨((bcell hx).1 _ _ la).trans c6, ((bcell hx).2 _ _ lm).trans fx, ⟨_, ((bcell hx).1 _ _ lm).trans cx⟩, Nat.lt_of_lt_of_le la hx.size, Nat.lt_of_lt_of_le lm hx.size⟩
      have HFIN := Lib.hid fin
      clear fin
      by_cases hfit : I64 (x + d)
      · have hfb := fitB_yes hfit
        have hfn := fitN_yes hfit
        rw [hfb, hfn] at HA
        rw [hfb]
        clear hfb hfn
        have hmode : (C.mode = 2) ∨ (C.mode ≠ 2) := by omega
        by_cases hm : C.mode = 2
        · have hdn : decide (d < 0) = false := by have := fun h => hmd ⟨hm, h⟩; simp; omega
          rw [hm] at c3
          clear hm hmd hmode
          go_enter Tryz.func114, Tryz.ntmps114
          go_wp2_with fail
          refine Calls.mono (HA.out _) ?_
          rintro e w1 ⟨rfl, hx1⟩
          obtain ⟨d6, fk, ⟨v0, ck⟩, l1, l2⟩ := HFIN.out w1 hx1
          clear c3 c6 cx fx la lm
          go_wp2
          go_ret
          have hX1 := HH.out.ext hx1
          exact ⟨rfl, by first | exact .inl ⟨rfl, hX1.set HLT.out hfit, (hx1.mod _).trans (mod_set _ _ _ _)⟩ | exact ⟨hX1.set HLT.out hfit, (hx1.mod _).trans (mod_set _ _ _ _)⟩⟩
        · have hmb : (C.mode == 2) = false := by simpa using hm
          clear hm hmd hmode
          go_enter Tryz.func114, Tryz.ntmps114
          go_wp2_with fail
          refine Calls.mono (HA.out _) ?_
          rintro e w1 ⟨rfl, hx1⟩
          obtain ⟨d6, fk, ⟨v0, ck⟩, l1, l2⟩ := HFIN.out w1 hx1
          clear c3 c6 cx fx la lm
          go_wp2
          go_ret
          have hX1 := HH.out.ext hx1
          exact ⟨rfl, by first | exact .inl ⟨rfl, hX1.set HLT.out hfit, (hx1.mod _).trans (mod_set _ _ _ _)⟩ | exact ⟨hX1.set HLT.out hfit, (hx1.mod _).trans (mod_set _ _ _ _)⟩⟩
      · have hfb := fitB_no hfit
        rw [hfb] at HA
        rw [hfb]
        clear hfb
        by_cases hm : C.mode = 2
        · have hdn : decide (d < 0) = false := by have := fun h => hmd ⟨hm, h⟩; simp; omega
          rw [hm] at c3
          clear hm hmd
          go_enter Tryz.func114, Tryz.ntmps114
          go_wp2_with fail
          refine Calls.mono (HA.out _) ?_
          rintro e w1 ⟨rfl, hx1⟩
          go_wp2
          go_ret
          exact ⟨rfl, by first | exact .inr ⟨by decide, hx1⟩ | exact hx1⟩
        · have hmb : (C.mode == 2) = false := by simpa using hm
          clear hm hmd
          go_enter Tryz.func114, Tryz.ntmps114
          go_wp2_with fail
          refine Calls.mono (HA.out _) ?_
          rintro e w1 ⟨rfl, hx1⟩
          go_wp2
          go_ret
          exact ⟨rfl, by first | exact .inr ⟨by decide, hx1⟩ | exact hx1⟩
def ptX (l : List Int) (N : Nat) (key : Int) : Value := if (N : Int) ≤ key then .tuple #[.int .i64 0, .int .i64 2] else .tuple #[.int .i64 (l.getD key.toNat 0), .int .i64 0]
set_option maxRecDepth 20000 in
set_option maxHeartbeats 2000000 in
theorem RXPoint_c (a m : Nat) (C : Cfg) (lv : Int) (N : Nat) (l : List Int) (key : Int) (w : World) (h : RXAt w a m C lv N l) (hk : U64 key) :
    Calls Tryz.prog 110 #[.pointer (some ⟨a, 0, none⟩), .int .u64 key] w fun e w' => e = .returned (ptX l N key) ∧ w = w' := by
  obtain ⟨hk0, hk1⟩ := hk
  obtain ⟨key, rfl⟩ := key_nat hk0
  obtain ⟨cap, hex, hcap⟩ := h.ex
  have c6 := (cell_of hex 6).trans rfl
  have la := h.lta
  have lm := h.ltm
  have k2 := h.k2
  unfold ptX
  rw [Int.toNat_natCast]
  by_cases hge : N ≤ key
  · rw [if_pos (by omega)]
    have hge' : decide ((N : Int) ≤ (key : Int)) = true := by simp; omega
    clear h hex
    go_enter Tryz.func110, Tryz.ntmps110
    go_wp2
    go_ret2
    exact ⟨rfl, rfl⟩
  · have hlt : key < N := by omega
    rw [if_neg (by omega)]
    have cx := h.cell hlt
    have hlt3 : (key : Int) < (N : Int) := by omega
    have hlt4 : ¬ ((N : Int) ≤ (key : Int)) := by omega
    generalize l.getD key 0 = x at *
    clear h hex hge hlt
    go_enter Tryz.func110, Tryz.ntmps110
    go_wp2
    go_ret2
    exact ⟨rfl, rfl⟩
end Go.Proofs.YteoblkcbemeamaaGreat

/- gaugerref13: New, Copy, Update, Point, Cells. -/
namespace Go.Proofs.YteoblkcbemeamaaGreat
set_option linter.unusedVariables false
open Go.RowKit
def RLNewPost (w : World) (C : Cfg) (lv : Int) (l : List Int) (e : Ending) (w' : World) : Prop :=
  ∃ L : RLev, e = .returned (.pointer (some ⟨L.p, 0, none⟩)) ∧ RLvAt w' L C lv l ∧ (∀ k, L.foot C lv k → w.heap.size ≤ k) ∧ Ext w w'
theorem RLNew_x {w w1 w' : World} {C : Cfg} {lv : Int} {a m p : Nat} {l : List Int} (hok : C.Ok) (h0 : 0 ≤ lv) (h1 : lv ≤ C.bits) (hx : isX C lv = true) (hA : RXAt w1 a m C lv (kN C lv) l) (ha : w.heap.size ≤ a) (hm : w.heap.size ≤ m) (hp : w.heap.size ≤ p) (hE : Ext w w') (hE1 : Ext w1 w')
    (hb : w'.heap[p]? = some (.cells #[.pointer (some ⟨a, 0, none⟩), .pointer none] 136 (0, 0))) : RLNewPost w C lv l (.returned (.pointer (some ⟨p, 0, none⟩))) w' := by
  refine ⟨⟨p, a, ⟨0, m, fun _ => 0, fun _ => 0⟩⟩, rfl, ⟨hok, h0, h1, .inl ⟨hx, hb, hA.ext hE1⟩⟩, ?_, hE⟩
  rintro k (rfl | ⟨_, (rfl | rfl)⟩ | ⟨hy, _⟩)
  · exact hp
  · exact ha
  · exact hm
  · rw [hx] at hy; cases hy
theorem RLNew_s {w w1 w' : World} {C : Cfg} {lv : Int} {a p : Nat} {G : Gr} {l : List Int} (hok : C.Ok) (h0 : 0 ≤ lv) (h1 : lv ≤ C.bits) (hx : isX C lv = false) (hA : RSAt w1 a G C lv (rN C) (wN C) l) (ha : ∀ k, rsF a G (rN C) k → w.heap.size ≤ k) (hp : w.heap.size ≤ p) (hE : Ext w w') (hE1 : Ext w1 w')
    (hb : w'.heap[p]? = some (.cells #[.pointer none, .pointer (some ⟨a, 0, none⟩)] 136 (0, 0))) : RLNewPost w C lv l (.returned (.pointer (some ⟨p, 0, none⟩))) w' := by
  refine ⟨⟨p, a, G⟩, rfl, ⟨hok, h0, h1, .inr ⟨hx, hb, hA.ext hE1⟩⟩, ?_, hE⟩
  rintro k (rfl | ⟨hy, _⟩ | ⟨_, hk⟩)
  · exact hp
  · rw [hx] at hy; cases hy
  · exact ha k hk
set_option maxRecDepth 20000 in
set_option maxHeartbeats 4000000 in
theorem RLNew_c (C : Cfg) (hok : C.Ok) (lv : Int) (h0 : 0 ≤ lv) (h1 : lv ≤ C.bits) (w : World) :
    Calls Tryz.prog 47 #[.agg #[.int .i64 C.bits, .int .i64 C.rows, .int .i64 C.width, .int .i64 C.mode, .int .u64 C.seed], .int .i64 lv] w (RLNewPost w C lv (zs (lvN C lv))) := by
  have hEX := fun W' => ExactR_c C hok lv h0 h1 W'
  obtain ⟨W0, hW0⟩ : ∃ W0, w.alloc (.cells #[.int .i64 C.bits, .int .i64 C.rows, .int .i64 C.width, .int .i64 C.mode, .int .u64 C.seed] 24) = W0 := ⟨_, rfl⟩
  have hCb : W0.heap[w.heap.size]? = some (.cells #[.int .i64 C.bits, .int .i64 C.rows, .int .i64 C.width, .int .i64 C.mode, .int .u64 C.seed] 24 (0, 0)) := by rw [← hW0]; exact heap_at _ _ rfl
  have hE : Ext w W0 := by rw [← hW0]; exact Ext.alloc' _ _
  have hC := CfgAt.of hCb
  have c0 := hC.c0
  have c1 := hC.c1
  have c2 := hC.c2
  have c3 := hC.c3
  have c4 := hC.c4
  have cl := hC.lt
  cases hx : isX C lv with
  | true =>
    have hlN : lvN C lv = kN C lv := by unfold lvN; rw [hx]; rfl
    rw [hx] at hEX
    rw [hlN]
    have hkn := kN_eq hok h0
    have hkb := keys_bd C hok lv h0
    have hkx : keys C lv ≤ 128 := by
      have h3 := hok.w2
      unfold isX at hx
      have := of_decide_eq_true hx
      omega
    have HX := Lib.hid hx
    have HEX := Lib.hid hEX
    have HCB := Lib.hid hCb
    have HKN := Lib.hid hkn
    clear hx hEX hC hlN hCb hkn
    go_enter Tryz.func47, Tryz.ntmps47
    go_wp2_with fail
    try rw [hW0]
    clear hW0
    refine Calls.mono (HEX.out _) ?_
    rintro e w1 ⟨rfl, hx1⟩
    have hC1 := CfgAt.of (hx1.keep HCB.out)
    have hE1 := hE.trans' hx1
    clear c0 c1 c2 c3 c4 cl hx1
    have c0 := hC1.c0
    have c1 := hC1.c1
    have c2 := hC1.c2
    have c3 := hC1.c3
    have c4 := hC1.c4
    have cl := hC1.lt
    clear hC1
    go_wp2_with fail
    have hC0 := af_drew w1
    refine pi_start (fun w' => ∃ z : After w1, w' = z.w) [] (by kernel_rfl) ?_
    refine pi_t 1 rfl (by kernel_rfl) (by kernel_rfl) (fun _ _ _ _ h => h) (fun K hK => ?_)
    go_big_quiet_op
    refine hK _ ?_
    clear hK K
    refine pi_t 3 rfl (by kernel_rfl) (by kernel_rfl) (fun _ _ _ _ h => h) (fun K hK => ?_)
    go_big_quiet_op
    refine hK _ ?_
    clear hK K
    refine pi_c 0 (by assumption) rfl (by kernel_rfl) (by kernel_rfl) (fun _ _ _ _ h => h) (fun K hK => ?_)
    go_big_quiet_op
    refine hK _ ?_
    clear hK K
    refine pi_c 2 (by assumption) rfl (by kernel_rfl) (by kernel_rfl) (fun _ _ _ _ h => h) (fun K hK => ?_)
    go_big_quiet_op
    refine hK _ ?_
    clear hK K
    refine pi_l 4 rfl (by kernel_rfl) (fun K hK => ?_)
    go_wp2_with (go_at_call 87; refine (KeysR_c C hok lv h0 h1 _).mono ?_; rintro e w2 ⟨rfl, hx2⟩)
    refine hK _ _ (fun _ h => af_step h hx2) ?_
    clear hK K
    have hE2 : Ext w1 w2 := Ext.trans' (Below.drew (Ext.refl w1)) hx2
    rw [HKN.out]
    refine pi_l 5 rfl (by kernel_rfl) (fun K hK => ?_)
    go_wp2_with (go_at_call 108; refine Calls.mono (RXNew_c C lv (kN C lv) (by have := HKN.out; omega) (by have := HKN.out; omega) _) ?_; rintro e w3 ⟨a, m, rfl, hA, ha, hm, hx3⟩)
    refine hK _ _ (fun _ h => af_step h hx3) ?_
    clear hK K
    have hE3 : Ext w1 w3 := hE2.trans' hx3
    have HA := Lib.hid hA
    have hz := hE1.size
    have hz2 := hE2.size
    clear hA
    refine pi_t 6 rfl (by kernel_rfl) (by kernel_rfl) (fun _ _ _ _ h => h) (fun K hK => ?_)
    go_big_quiet_op
    refine hK _ ?_
    clear hK K
    refine pi_l 7 rfl (by kernel_rfl) (fun K hK => ?_)
    go_wp2
    refine hK _ _ (fun _ h => af_step h (Ext.alloc' _ _)) ?_
    clear hK K
    refine pi_t 8 rfl (by kernel_rfl) (by kernel_rfl) (fun _ _ _ _ h => h) (fun K hK => ?_)
    go_big_quiet_op
    refine hK _ ?_
    clear hK K
    refine pi_end (by kernel_rfl) ?_
    have hz3 := hE3.size
    go_wp2
    go_ret
    exact RLNew_x hok h0 h1 HX.out HA.out (by omega) (by omega) (by omega) ((hE1.trans' hE3).allocR _) (Ext.alloc' _ _) (heap_at _ _ rfl)
  | false =>
    have hlN : lvN C lv = rN C * wN C := by unfold lvN; rw [hx]; rfl
    rw [hx] at hEX
    rw [hlN]
    have HX := Lib.hid hx
    have HEX := Lib.hid hEX
    have HCB := Lib.hid hCb
    have HS := Lib.hid (fun W' => RSNew_c C hok lv h0 h1 (rN C) (wN C) (rN_eq hok) (wN_eq hok) W')
    clear hx hEX hC hlN hCb
    go_enter Tryz.func47, Tryz.ntmps47
    go_wp2_with fail
    try rw [hW0]
    clear hW0
    refine Calls.mono (HEX.out _) ?_
    rintro e w1 ⟨rfl, hx1⟩
    have hC1 := CfgAt.of (hx1.keep HCB.out)
    have hE1 := hE.trans' hx1
    clear c0 c1 c2 c3 c4 cl hx1
    have c0 := hC1.c0
    have c1 := hC1.c1
    have c2 := hC1.c2
    have c3 := hC1.c3
    have c4 := hC1.c4
    have cl := hC1.lt
    clear hC1
    go_wp2_with fail
    refine Calls.mono (HS.out _) ?_
    rintro e w2 ⟨a, G, rfl, hA, hF, hx2⟩
    have HA := Lib.hid hA
    have HF := Lib.hid (show ∀ k, rsF a G (rN C) k → w1.heap.size ≤ k from hF)
    have hE2 := hE1.trans' hx2
    have hz := hE1.size
    have hz2 := hE2.size
    clear hA hF
    go_wp2
    go_ret
    exact RLNew_s hok h0 h1 HX.out HA.out (fun k hk => Nat.le_trans hz (HF.out k hk)) hz2 (hE2.allocR _) (Ext.alloc' _ _) (heap_at _ _ rfl)
set_option maxRecDepth 20000 in
set_option maxHeartbeats 4000000 in
theorem RLCopy_c (L : RLev) (C : Cfg) (lv : Int) (l : List Int) (w : World) (h : RLvAt w L C lv l) :
    Calls Tryz.prog 49 #[.pointer (some ⟨L.p, 0, none⟩)] w (RLNewPost w C lv l) := by
  have hok := h.1
  have h0 := h.2.1
  have h1 := h.2.2.1
  cases hx : isX C lv with
  | true =>
    obtain ⟨hb, hA⟩ := h.x hx
    have p0 := (cell_of hb 0).trans rfl
    have pl := lt_of hb
    have HA := Lib.hid hA
    have HX := Lib.hid hx
    clear hx hb hA h
    go_enter Tryz.func49, Tryz.ntmps49
    go_wp2_with fail
    refine Calls.mono (RXCopy_c _ _ C lv _ l _ HA.out) ?_
    rintro e w1 ⟨a, m, rfl, hA1, ha, hm, hx1⟩
    have HA1 := Lib.hid hA1
    have hz := hx1.size
    clear hA1
    go_wp2
    go_ret
    exact RLNew_x hok h0 h1 HX.out HA1.out ha hm hz (hx1.allocR _) (Ext.alloc' _ _) (heap_at _ _ rfl)
  | false =>
    obtain ⟨hb, hA⟩ := h.sk hx
    have p0 := (cell_of hb 0).trans rfl
    have p1 := (cell_of hb 1).trans rfl
    have pl := lt_of hb
    have HA := Lib.hid hA
    have HX := Lib.hid hx
    clear hx hb hA h
    go_enter Tryz.func49, Tryz.ntmps49
    go_wp2_with fail
    refine Calls.mono (RSCopy_c _ _ C lv _ _ l _ HA.out) ?_
    rintro e w1 ⟨a, G, rfl, hA1, hF, hx1⟩
    have HA1 := Lib.hid hA1
    have HF := Lib.hid (show ∀ k, rsF a G (rN C) k → w.heap.size ≤ k from hF)
    have hz := hx1.size
    clear hA1 hF
    go_wp2
    go_ret
    exact RLNew_s hok h0 h1 HX.out HA1.out HF.out hz (hx1.allocR _) (Ext.alloc' _ _) (heap_at _ _ rfl)
def RLUpdPost (w : World) (L : RLev) (C : Cfg) (lv : Int) (l : List Int) (key d : Int) (e : Ending) (w' : World) : Prop :=
  e = .returned (.int .i64 (lvE C lv l key d)) ∧ ((lvE C lv l key d = 0 ∧ RLvAt w' L C lv (lvU C lv l key d) ∧ Mod (L.foot C lv) w w') ∨ (lvE C lv l key d ≠ 0 ∧ Ext w w'))
set_option maxRecDepth 20000 in
set_option maxHeartbeats 4000000 in
theorem RLUpdate_c (L : RLev) (C : Cfg) (lv : Int) (l : List Int) (key d : Int) (w : World) (h : RLvAt w L C lv l) (hk : U64 key) (hd : I64 d) :
    Calls Tryz.prog 50 #[.pointer (some ⟨L.p, 0, none⟩), .int .u64 key, .int .i64 d] w (RLUpdPost w L C lv l key d) := by
  have hok := h.1
  have h0 := h.2.1
  have h1 := h.2.2.1
  cases hx : isX C lv with
  | true =>
    obtain ⟨hb, hA⟩ := h.x hx
    have p0 := (cell_of hb 0).trans rfl
    have pl := lt_of hb
    have HU := Lib.hid (RXUpdate_c _ _ C lv _ l key d w hA (kN_eq hok h0) hd hk)
    have HB := Lib.hid hb
    have HA := Lib.hid hA
    have HX := Lib.hid hx
    unfold RLUpdPost
    rw [lvE_x hx, lvU_x hx]
    clear hx hb hA h
    go_enter Tryz.func50, Tryz.ntmps50
    go_wp2_with fail
    refine Calls.mono HU.out ?_
    rintro e w1 ⟨rfl, hres⟩
    have HRES := Lib.hid hres
    clear hres HU
    go_wp2
    go_ret
    rcases HRES.out with ⟨e0, hA1, hM⟩ | ⟨e0, hE⟩
    · refine ⟨rfl, .inl ⟨e0, ⟨hok, h0, h1, .inl ⟨HX.out, ?_, hA1⟩⟩, hM.wider (fun k hk => .inr (.inl ⟨HX.out, .inr hk⟩))⟩⟩
      exact hM.keep HB.out (fun e => by obtain ⟨cu, q1, _⟩ := HA.out.cells; exact blk_ne HB.out q1 (by decide) e)
    · exact ⟨rfl, .inr ⟨e0, hE⟩⟩
  | false =>
    obtain ⟨hb, hA⟩ := h.sk hx
    have p0 := (cell_of hb 0).trans rfl
    have p1 := (cell_of hb 1).trans rfl
    have pl := lt_of hb
    have HU := Lib.hid (RSUpdate_c _ _ C lv _ _ l key d w hA hk hd)
    have HB := Lib.hid hb
    have HA := Lib.hid hA
    have HX := Lib.hid hx
    unfold RLUpdPost
    rw [lvE_s hx, lvU_s hx]
    clear hx hb hA h
    go_enter Tryz.func50, Tryz.ntmps50
    go_wp2_with fail
    refine Calls.mono HU.out ?_
    rintro e w1 ⟨rfl, hres⟩
    have HRES := Lib.hid hres
    clear hres HU
    go_wp2
    go_ret
    rcases HRES.out with ⟨e0, hA1, hM⟩ | ⟨e0, hE⟩
    · refine ⟨rfl, .inl ⟨e0, ⟨hok, h0, h1, .inr ⟨HX.out, ?_, hA1⟩⟩, hM.wider (fun k hk => .inr (.inr ⟨HX.out, .inr hk⟩))⟩⟩
      refine hM.keep HB.out (fun e => ?_)
      rcases e with e | e | ⟨r, hr, e⟩
      · obtain ⟨cp, q1, _⟩ := HA.out.g.ex; exact blk_ne HB.out q1 (by decide) e
      · obtain ⟨cp, q1, _⟩ := HA.out.g.row; exact blk_ne HB.out q1 (by decide) e
      · obtain ⟨cp, q1, _⟩ := HA.out.g.cells r hr; exact blk_ne HB.out q1 (by decide) e
    · exact ⟨rfl, .inr ⟨e0, hE⟩⟩
/-- What Point tells of a key of any kind, of a level. -/
def ptA (C : Cfg) (lv : Int) (l : List Int) (key x r : Int) : Prop :=
  (keys C lv ≤ key ∧ x = 0 ∧ r = 2) ∨ (key < keys C lv ∧ lvPt C lv l key x ∧ r = 0)
theorem ptA_unique {C : Cfg} {lv : Int} {l : List Int} {key x r y t : Int} (h : ptA C lv l key x r) (h2 : ptA C lv l key y t) : x = y ∧ r = t := by
  rcases h with ⟨a, rfl, rfl⟩ | ⟨a, b, rfl⟩ <;> rcases h2 with ⟨a2, rfl, rfl⟩ | ⟨a2, b2, rfl⟩
  · exact ⟨rfl, rfl⟩
  · omega
  · omega
  · exact ⟨lvPt_unique b b2, rfl⟩
theorem kth_in {l : List Int} {k : Nat} {x : Int} (h : IsKth l k x) : x ∈ l := by
  obtain ⟨h1, h2⟩ := h
  have : 0 < sameN x l := by omega
  unfold sameN at this
  obtain ⟨y, hy⟩ := List.exists_mem_of_length_pos this
  simp only [List.mem_filter] at hy
  obtain ⟨hy1, hy2⟩ := hy
  have : y = x := by simpa using hy2
  rw [← this]; exact hy1
theorem ptA_I {C : Cfg} {lv : Int} {l : List Int} {key x r : Int} (h : ptA C lv l key x r) (hfit : ∀ y ∈ l, I64 y) : I64 x := by
  rcases h with ⟨_, rfl, _⟩ | ⟨_, (⟨_, rfl⟩ | ⟨_, hk⟩), _⟩
  · unfold I64; omega
  · exact getD_i64 hfit _
  · have hm := kth_in hk
    unfold readL at hm
    rw [List.mem_map] at hm
    obtain ⟨j, _, rfl⟩ := hm
    exact getD_i64 hfit _
set_option maxRecDepth 20000 in
set_option maxHeartbeats 4000000 in
theorem RLPoint_c (L : RLev) (C : Cfg) (lv : Int) (l : List Int) (key : Int) (w : World) (h : RLvAt w L C lv l) (hk : U64 key) :
    Calls Tryz.prog 48 #[.pointer (some ⟨L.p, 0, none⟩), .int .u64 key] w fun e w' => ∃ x r, e = .returned (.tuple #[.int .i64 x, .int .i64 r]) ∧ ptA C lv l key x r ∧ Ext w w' := by
  have hok := h.1
  have h0 := h.2.1
  have h1 := h.2.2.1
  cases hx : isX C lv with
  | true =>
    obtain ⟨hb, hA⟩ := h.x hx
    have p0 := (cell_of hb 0).trans rfl
    have pl := lt_of hb
    have hkn := kN_eq hok h0
    have hU : ∃ x r, Calls Tryz.prog 110 #[.pointer (some ⟨L.a, 0, none⟩), .int .u64 key] w (fun e w' => e = .returned (.tuple #[.int .i64 x, .int .i64 r]) ∧ w = w') ∧ ptA C lv l key x r := by
      have h2 := RXPoint_c _ _ C lv _ l key w hA hk
      unfold ptX at h2
      by_cases hge : ((kN C lv : Nat) : Int) ≤ key
      · rw [if_pos hge] at h2
        exact ⟨0, 2, h2, .inl ⟨by omega, rfl, rfl⟩⟩
      · rw [if_neg hge] at h2
        exact ⟨_, 0, h2, .inr ⟨by omega, .inl ⟨hx, rfl⟩, rfl⟩⟩
    obtain ⟨x, r, hU, hp⟩ := hU
    have HU := Lib.hid hU
    have HP := Lib.hid hp
    clear hx hb hA h hU hp hkn
    go_enter Tryz.func48, Tryz.ntmps48
    go_wp2_with fail
    refine Calls.mono HU.out ?_
    rintro e w1 ⟨rfl, rfl⟩
    go_wp2
    go_ret2
    exact ⟨x, r, rfl, HP.out, Ext.refl _⟩
  | false =>
    obtain ⟨hb, hA⟩ := h.sk hx
    have p0 := (cell_of hb 0).trans rfl
    have p1 := (cell_of hb 1).trans rfl
    have pl := lt_of hb
    have HU := Lib.hid (RSPoint_c _ _ C lv _ _ l key w hA hk)
    have HX := Lib.hid hx
    clear hx hb hA h
    go_enter Tryz.func48, Tryz.ntmps48
    go_wp2_with fail
    refine Calls.mono HU.out ?_
    rintro e w1 ⟨x, r, rfl, hp, hx1⟩
    have HP := Lib.hid hp
    clear hp HU
    go_wp2
    go_ret2
    refine ⟨x, r, rfl, ?_, hx1⟩
    rcases HP.out with ⟨a, b, c⟩ | ⟨a, b, c⟩
    · exact .inl ⟨a, b, c⟩
    · exact .inr ⟨a, .inr ⟨HX.out, b⟩, c⟩
set_option maxRecDepth 20000 in
set_option maxHeartbeats 4000000 in
theorem RLCells_c (L : RLev) (C : Cfg) (lv : Int) (l : List Int) (w : World) (h : RLvAt w L C lv l) :
    Calls Tryz.prog 24 #[.pointer (some ⟨L.p, 0, none⟩)] w fun e w' => ∃ v, e = .returned v ∧ w'.ownsRow w.heap.size 2 1 v l.length (ints l) ∧ Ext w w' := by
  cases hx : isX C lv with
  | true =>
    obtain ⟨hb, hA⟩ := h.x hx
    have p0 := (cell_of hb 0).trans rfl
    have pl := lt_of hb
    obtain ⟨cap, hex, hcap⟩ := hA.ex
    have a6 := (cell_of hex 6).trans rfl
    have al := lt_of hex
    have lm := hA.ltm
    have k2 := hA.k2
    have hcell : ∀ W : World, Ext w W → ∀ k, k < kN C lv → W.cell? ⟨L.G.m, 0 + k, none⟩ = some (.int .i64 (l.getD k 0)) := fun W hW k hk => by rw [(bcell hW).1 _ _ lm, Nat.zero_add]; exact hA.cell hk
    have HC := Lib.hid hcell
    have HL := Lib.hid hA.len
    clear hx hb hA h hcell hex
    go_enter Tryz.func24, Tryz.ntmps24
    have hE1 : Ext w (w.alloc (.cells #[] 2)) := Ext.alloc' _ _
    have hown : (w.alloc (.cells #[] 2)).ownsRow w.heap.size 2 1 (.slice (some ⟨w.heap.size, 0, none⟩) 0 0) ([] : List Int).length (ints []) := own_empty w 2
    go_wp2_with (at_builtin; refine wpList_appl (w.alloc (.cells #[] 2)) l [] _ w.heap.size 2 hown 43 rfl _ _ rfl info_i64 Tryz.underlying43 (by rfl) L.G.m 0 (kN C lv) cap (by rfl) HL.out.symm (HC.out _ hE1) ?a1 ?a2 ?_)
    case a1 => show 0 + kN C lv ≤ _; omega
    case a2 => exact hE1.size
    intro v' w' g1 g2 g3
    have hE2 : Ext w w' := ext_grown0 hE1 g2 (fun i hi => own_blk hown hi)
    have G1 := Lib.hid g1
    obtain ⟨pv, cv, rfl⟩ := own_sl g1
    clear g1 g2 g3 hown
    go_wp2
    go_ret
    exact ⟨_, rfl, G1.out, hE2⟩
  | false =>
    obtain ⟨hb, hA⟩ := h.sk hx
    have p0 := (cell_of hb 0).trans rfl
    have p1 := (cell_of hb 1).trans rfl
    have pl := lt_of hb
    have a6 := (cell_of hA.ex 6).trans rfl
    have al := hA.lts
    have HU := Lib.hid (RGCells_c _ _ _ l w hA.g)
    clear hx hb hA h
    go_enter Tryz.func24, Tryz.ntmps24
    go_wp2_with fail
    refine Calls.mono HU.out ?_
    rintro e w1 ⟨v, rfl, ho, hx1⟩
    have HO := Lib.hid ho
    obtain ⟨pv, cv, rfl⟩ := own_sl ho
    clear ho HU
    go_wp2
    go_ret
    exact ⟨_, rfl, HO.out, hx1⟩
end Go.Proofs.YteoblkcbemeamaaGreat

/- gaugerref15: New, Copy. -/
namespace Go.Proofs.YteoblkcbemeamaaGreat
set_option linter.unusedVariables false
open Go.RowKit
theorem info_lp : ∃ i z, Tryz.prog.info? 45 = some i ∧ i.zero = some z ∧ i.size = 1 ∧ i.bytes = 8 ∧ z.cells.size = 1 := by
  have h : (Tryz.prog.info? 45).map (fun i => (i.zero, i.size, i.bytes)) = some (some (.pointer none), 1, 8) := by kernel_rfl
  match hi : Tryz.prog.info? 45, h with
  | some i, h =>
    simp only [Option.map_some, Option.some.injEq, Prod.mk.injEq] at h
    exact ⟨i, .pointer none, rfl, h.1, h.2.1, h.2.2, rfl⟩
def rp (L : Nat → RLev) (k : Nat) : List Value := (List.range k).map fun n => Value.pointer (some ⟨(L n).p, 0, none⟩)
theorem rp_len (L : Nat → RLev) (k : Nat) : (rp L k).length = k := by simp [rp]
theorem rp_succ (L : Nat → RLev) (k : Nat) : rp L (k + 1) = rp L k ++ [Value.pointer (some ⟨(L k).p, 0, none⟩)] := by unfold rp; rw [List.range_succ, List.map_append]; rfl
theorem rp_cong {L L' : Nat → RLev} {k : Nat} (h : ∀ n, n < k → L n = L' n) : rp L k = rp L' k := by
  unfold rp
  apply List.map_congr_left
  intro n hn
  rw [List.mem_range] at hn
  rw [h n hn]
theorem rp_get (L : Nat → RLev) {k n : Nat} (h : n < k) : (rp L k)[n]? = some (Value.pointer (some ⟨(L n).p, 0, none⟩)) := by unfold rp; rw [List.getElem?_map, List.getElem?_range h]; rfl
/-- A level's blocks are no row of levels, nor a stack. -/
theorem RLvAt.ty {w : World} {L : RLev} {C : Cfg} {lv : Int} {l : List Int} (h : RLvAt w L C lv l) {k : Nat} (hk : L.foot C lv k) {cur : Array Value} {T : TypeId} {f : Nat × Nat} (hb : w.heap[k]? = some (.cells cur T f)) : T ≠ 45 ∧ T ≠ 48 := by
  have key : ∀ (c2 : Array Value) (T2 : TypeId) (f2 : Nat × Nat), w.heap[k]? = some (.cells c2 T2 f2) → T2 ≠ 45 → T2 ≠ 48 → T ≠ 45 ∧ T ≠ 48 := fun c2 T2 f2 h2 n1 n2 => by
    rw [hb] at h2
    injection h2 with h2
    injection h2 with _ h2 _
    rw [h2]; exact ⟨n1, n2⟩
  rcases hk with rfl | ⟨hx, hk⟩ | ⟨hx, hk⟩
  · obtain ⟨_, _, _, ⟨_, h1, _⟩ | ⟨_, h1, _⟩⟩ := h <;> exact key _ _ _ h1 (by decide) (by decide)
  · obtain ⟨_, h2⟩ := h.x hx
    rcases hk with rfl | rfl
    · obtain ⟨cap, h3, _⟩ := h2.ex; exact key _ _ _ h3 (by decide) (by decide)
    · obtain ⟨cu, h3, _⟩ := h2.cells; exact key _ _ _ h3 (by decide) (by decide)
  · obtain ⟨_, h2⟩ := h.sk hx
    rcases hk with rfl | (rfl | rfl | ⟨r, hr, rfl⟩)
    · exact key _ _ _ h2.ex (by decide) (by decide)
    · obtain ⟨cap, h3, _⟩ := h2.g.ex; exact key _ _ _ h3 (by decide) (by decide)
    · obtain ⟨cap, h3, _⟩ := h2.g.row; exact key _ _ _ h3 (by decide) (by decide)
    · obtain ⟨cap, h3, _⟩ := h2.g.cells r hr; exact key _ _ _ h3 (by decide) (by decide)
/-- Some levels that have been made. -/
structure RMade (w : World) (B0 : Nat) (C : Cfg) (k : Nat) (L : Nat → RLev) (ls : Nat → List Int) (v : Value) : Prop where
  row : w.ownsRow B0 45 1 v (rp L k).length (rp L k)
  lev : ∀ n, n < k → RLvAt w (L n) C n (ls n)
  new : ∀ n, n < k → ∀ j, (L n).foot C n j → B0 ≤ j
  sep : ∀ m n, m < k → n < k → m ≠ n → Dj ((L m).foot C m) ((L n).foot C n)
theorem RMade.zero (w : World) (B0 : Nat) (C : Cfg) (L : Nat → RLev) (ls : Nat → List Int) : RMade w B0 C 0 L ls (.slice none 0 0) :=
  ⟨⟨rfl, .inl ⟨rfl, rfl⟩⟩, by intros; omega, by intros; omega, by intros; omega⟩
theorem RMade.ext {w w' : World} {B0 k : Nat} {C : Cfg} {L : Nat → RLev} {ls : Nat → List Int} {v : Value} (h : RMade w B0 C k L ls v) (he : Ext w w') : RMade w' B0 C k L ls v :=
  ⟨own_ext h.row he, fun n hn => (h.lev n hn).ext he, h.new, h.sep⟩
theorem RMade.setc {w : World} {B0 k : Nat} {C : Cfg} {L : Nat → RLev} {ls : Nat → List Int} {v : Value} (h : RMade w B0 C k L ls v) {b : Nat} (hb : b < B0) (o : Nat) (u : Value) : RMade (w.setCell ⟨b, o, none⟩ u) B0 C k L ls v :=
  ⟨own_setc h.row hb o u, fun n hn => (h.lev n hn).keep (fun j hj => setCell_other _ _ (by have := h.new n hn j hj; omega)), h.new, h.sep⟩
/-- One more. -/
theorem RMade.next {w0 w w' : World} {B0 k : Nat} {C : Cfg} {L : Nat → RLev} {ls : Nat → List Int} {v v' : Value} {M : RLev} {l : List Int} {o : Obj} (h : RMade w0 B0 C k L ls v) (he : Ext w0 w) (hB : B0 ≤ w0.heap.size) (hM : RLvAt w M C k l) (hN : ∀ j, M.foot C k j → w0.heap.size ≤ j) (hl : l = ls k)
    (hown : w'.ownsRow B0 45 1 v' (rp L k ++ [Value.pointer (some ⟨M.p, 0, none⟩)]).length (rp L k ++ [Value.pointer (some ⟨M.p, 0, none⟩)])) (hg : (w.alloc o).grownBy w' v.ownBlock) : RMade w' B0 C (k + 1) (fun n => if n = k then M else L n) ls v' := by
  subst hl
  have hw := h.ext he
  have hkeep : ∀ {n : Nat} {K : RLev} {l : List Int}, RLvAt w K C n l → RLvAt w' K C n l := fun {n K l} hK => hK.keep (fun j hj => grown_old hg (hK.lt hj) (fun e => by
    obtain ⟨cu, hc⟩ := own_type hw.row e.symm
    exact (hK.ty hj hc).1 rfl))
  refine ⟨?_, fun n hn => ?_, fun n hn j hj => ?_, fun m n hm hn hmn => ?_⟩
  · rw [rp_succ, if_pos rfl, rp_cong (L' := L) (fun i hi => if_neg (by omega))]
    exact hown
  · by_cases e : n = k
    · subst e; rw [if_pos rfl]; exact hkeep hM
    · rw [if_neg e]; exact hkeep (hw.lev n (by omega))
  · by_cases e : n = k
    · subst e; rw [if_pos rfl] at hj; exact Nat.le_trans hB (hN j hj)
    · rw [if_neg e] at hj; exact h.new n (by omega) j hj
  · by_cases e : m = k
    · subst e
      rw [if_pos rfl, if_neg (by omega)]
      intro j h1 h2
      have a := hN j h1
      have b := (h.lev n (by omega)).lt h2
      omega
    · rw [if_neg e]
      by_cases e' : n = k
      · subst e'
        rw [if_pos rfl]
        intro j h1 h2
        have a := hN j h2
        have b := (h.lev m (by omega)).lt h1
        omega
      · rw [if_neg e']; exact h.sep m n (by omega) (by omega) hmn
/-- All levels, and the stack's own block: a stack. -/
theorem RMade.stack {w : World} {s B0 B : Nat} {C : Cfg} {L : Nat → RLev} {ls : Nat → List Int} {v : Value} (h : RMade w B0 C (B + 1) L ls v) (hok : C.Ok) (hB : C.bits = B) (hs : w.heap[s]? = some (.cells #[.int .i64 C.bits, .int .i64 C.rows, .int .i64 C.width, .int .i64 C.mode, .int .u64 C.seed, v] 48 (0, 0))) :
    ∃ t, B0 ≤ t ∧ RKAt w s t C B L ls := by
  have hl := rp_len L (B + 1)
  rcases h.row.2 with ⟨_, h0⟩ | ⟨g, cap, cur, rfl, hbg, hg, hnc, hcm, hcs, htake⟩
  · rw [hl] at h0; omega
  · rw [hl] at hs hnc
    refine ⟨g, hbg, ⟨⟨cap, hs, hnc⟩, ⟨cur, hg, fun n hn => ?_⟩, fun n hn => h.lev n (by omega), fun m n hm hn => h.sep m n (by omega) (by omega), hok, hB⟩⟩
    have h1 := h.row.cells (g := g) rfl n _ (rp_get L (show n < B + 1 by omega))
    rw [show ((⟨g, 0, none⟩ : Addr).add n) = ⟨g, n, none⟩ by (simp [Addr.add]; intro e; exact e.symm), cell_of hg] at h1
    exact h1
def RKNewPost (w : World) (C : Cfg) (B : Nat) (ls : Nat → List Int) (e : Ending) (w' : World) : Prop :=
  ∃ (s t : Nat) (L : Nat → RLev), e = .returned (.pointer (some ⟨s, 0, none⟩)) ∧ RKAt w' s t C B L ls ∧ (∀ k, rkF s t C B L k → w.heap.size ≤ k) ∧ Ext w w'
theorem RMade.post {w wr : World} {s B0 B : Nat} {C : Cfg} {L : Nat → RLev} {ls : Nat → List Int} {v : Value} (h : RMade wr B0 C (B + 1) L ls v) (hok : C.Ok) (hB : C.bits = B) (hs : wr.heap[s]? = some (.cells #[.int .i64 C.bits, .int .i64 C.rows, .int .i64 C.width, .int .i64 C.mode, .int .u64 C.seed, v] 48 (0, 0))) (hsw : w.heap.size ≤ s) (hB0 : w.heap.size ≤ B0) (hE : Ext w wr) :
    RKNewPost w C B ls (.returned (.pointer (some ⟨s, 0, none⟩))) wr := by
  obtain ⟨t, ht, hK⟩ := h.stack hok hB hs
  refine ⟨s, t, L, rfl, hK, ?_, hE⟩
  rintro k (rfl | rfl | ⟨n, hn, hk⟩)
  · exact hsw
  · omega
  · exact Nat.le_trans hB0 (h.new n (by omega) k hk)
set_option maxRecDepth 20000 in
set_option maxHeartbeats 8000000 in
theorem RKNew_c (C : Cfg) (hok : C.Ok) (B : Nat) (hB : C.bits = B) (w : World) :
    Calls Tryz.prog 17 #[.agg #[.int .i64 C.bits, .int .i64 C.rows, .int .i64 C.width, .int .i64 C.mode, .int .u64 C.seed]] w (RKNewPost w C B (fun n => zs (lvN C n))) := by
  have hb2 := hok.b2
  have hbd : B ≤ 59 := by omega
  have HB := Lib.hid hB
  obtain ⟨W0, hW0⟩ : ∃ W0, w.alloc (.cells #[.int .i64 C.bits, .int .i64 C.rows, .int .i64 C.width, .int .i64 C.mode, .int .u64 C.seed] 24) = W0 := ⟨_, rfl⟩
  have hCb : W0.heap[w.heap.size]? = some (.cells #[.int .i64 C.bits, .int .i64 C.rows, .int .i64 C.width, .int .i64 C.mode, .int .u64 C.seed] 24 (0, 0)) := by rw [← hW0]; exact heap_at _ _ rfl
  have hE : Ext w W0 := by rw [← hW0]; exact Ext.alloc' _ _
  have hsz : W0.heap.size = w.heap.size + 1 := by rw [← hW0, size_alloc]
  have hC := CfgAt.of hCb
  have c0 := hC.c0
  have c1 := hC.c1
  have c2 := hC.c2
  have c3 := hC.c3
  have c4 := hC.c4
  have cl := hC.lt
  have HCB := Lib.hid hCb
  have HSZ := Lib.hid hsz
  clear hC hB hCb hsz hb2
  go_enter Tryz.func17, Tryz.ntmps17
  go_upto_region 1 with (fail)
  try rw [hW0]
  clear hW0
  go_wp2_with fail
  clear c0 c1 c2 c3 c4 cl
  go_loopw [4] (fun u4 wr => ∃ (k : Nat) (L : Nat → RLev) (v : Value), k ≤ B + 1 ∧ u4 = .int .i64 k ∧ Ext W0 wr ∧ wr.heap[W0.heap.size]? = some (.cells #[.int .i64 C.bits, .int .i64 C.rows, .int .i64 C.width, .int .i64 C.mode, .int .u64 C.seed, v] 48 (0, 0)) ∧ RMade wr (W0.heap.size + 1) C k L (fun n => zs (lvN C n)) v) (fun u4 _ => B + 1 - (intOf u4).toNat)
  case atStart => exact ⟨0, fun _ => ⟨0, 0, ⟨0, 0, fun _ => 0, fun _ => 0⟩⟩, _, Nat.zero_le _, rfl, Ext.alloc' _ _, heap_at _ _ rfl, RMade.zero _ _ _ _ _⟩
  case round =>
    obtain ⟨k, L, v, hk, rfl, hE0, hbx, hM⟩ := hrel
    have hCq := CfgAt.of (hE0.keep HCB.out)
    have c0 := hCq.c0
    have c1 := hCq.c1
    have c2 := hCq.c2
    have c3 := hCq.c3
    have c4 := hCq.c4
    have cl := hCq.lt
    have hbl := lt_of hbx
    have HBX := Lib.hid hbx
    have HM := Lib.hid hM
    clear hCq hM
    by_cases hlt : k < B + 1
    · have hle : (k : Int) ≤ C.bits := by have := HB.out; omega
      have b5 := (cell_of hbx 5).trans rfl
      have HL := Lib.hid (fun W' => RLNew_c C hok k (Int.natCast_nonneg k) hle W')
      obtain ⟨S, hSS⟩ : ∃ S : Nat → Prop, ∀ i, S i ↔ v.ownBlock = some i := ⟨_, fun _ => Iff.rfl⟩
      have n1 : ¬ S w.heap.size := fun h => by have := own_blk HM.out.row ((hSS _).1 h); have := HSZ.out; omega
      have n2 : ¬ S W0.heap.size := fun h => by have := own_blk HM.out.row ((hSS _).1 h); omega
      have HSS := Lib.hid hSS
      clear hbx hSS
      go_wp2_with fail
      have hC0 := afs_drew S wr
      refine pi_start (fun w' => ∃ z : AftS S wr, w' = z.w) [12] (by kernel_rfl) ?_
      refine pi_t 0 rfl (by kernel_rfl) (by kernel_rfl) (fun _ _ _ _ h => h) (fun K hK => ?_)
      go_big_quiet_op
      refine hK _ ?_
      clear hK K
      refine pi_t 1 rfl (by kernel_rfl) (by kernel_rfl) (fun _ _ _ _ h => h) (fun K hK => ?_)
      go_big_quiet_op
      refine hK _ ?_
      clear hK K
      refine pi_t 2 rfl (by kernel_rfl) (by kernel_rfl) (fun _ _ _ _ h => h) (fun K hK => ?_)
      go_big_quiet_op
      refine hK _ ?_
      clear hK K
      refine pi_t 3 rfl (by kernel_rfl) (by kernel_rfl) (fun _ _ _ _ h => h) (fun K hK => ?_)
      go_big_quiet_op
      refine hK _ ?_
      clear hK K
      refine pi_t 6 rfl (by kernel_rfl) (by kernel_rfl) (fun _ _ _ _ h => h) (fun K hK => ?_)
      go_big_quiet_op
      refine hK _ ?_
      clear hK K
      refine pi_c 4 (by assumption) rfl (by kernel_rfl) (by kernel_rfl) (fun _ _ _ _ h => h) (fun K hK => ?_)
      go_big_quiet_op
      refine hK _ ?_
      clear hK K
      refine pi_c 5 (by assumption) rfl (by kernel_rfl) (by kernel_rfl) (fun _ _ _ _ h => h) (fun K hK => ?_)
      go_big_quiet_op
      refine hK _ ?_
      clear hK K
      refine pi_l 7 rfl (by kernel_rfl) (fun K hK => ?_)
      go_wp2_with (go_at_call 47; refine Calls.mono (HL.out _) ?_; rintro e wt ⟨M, rfl, hMv, hMf, hxt⟩)
      have hEt : Ext wr wt := Ext.trans' (Below.drew (Ext.refl wr)) hxt
      refine hK _ _ (fun _ h => afs_step h hxt) ?_
      clear hK K
      have HMV := Lib.hid hMv
      have HMF := Lib.hid (show ∀ j, M.foot C k j → wr.heap.size ≤ j from hMf)
      have HR := Lib.hid (HM.out.ext hEt).row
      have hz := hE0.size
      have hzt := hEt.size
      obtain ⟨i0, z0, hi0, hz0, hz1, hz2, hz3⟩ := info_lp
      clear hMv hMf hxt
      refine pi_l 8 rfl (by kernel_rfl) (fun K hK => ?_)
      go_wp2
      refine hK _ _ (fun _ h => afs_step h (Ext.alloc' _ _)) ?_
      clear hK K
      refine pi_l 9 rfl (by kernel_rfl) (fun K hK => ?_)
      go_wp2_with (at_builtin; refine wpList_appB wt 8 (by decide) (.pointer (some ⟨M.p, 0, none⟩)) rfl (rp L k) v (W0.heap.size + 1) 45 HR.out 46 rfl _ _ rfl i0 z0 hi0 hz0 hz1 hz2 hz3 Tryz.underlying46 (by rfl) (by rfl) ?b1 ?b2 ?_)
      case b1 => rw [rp_len]; omega
      case b2 => omega
      intro v' wf g1 g2
      have hEf : Ext W0 wf := ext_grown (hE0.trans' hEt) g2 (fun i hi => by have := own_blk HR.out hi; omega)
      have hnext := HM.out.next hEt (by omega) HMV.out HMF.out rfl (by rw [List.length_append]; exact g1) g2
      have hbf := (grown_old g2 (show W0.heap.size < wt.heap.size by omega) (fun e => by have := own_blk HR.out e.symm; omega)).trans (hEt.keep HBX.out)
      have HN := Lib.hid hnext
      have f5 := frozen_of hbf 5
      have q5 := (cell_of hbf 5).trans rfl
      have ql := lt_of hbf
      have HBF := Lib.hid hbf
      obtain ⟨pv, nv, cv, rfl⟩ := own_slice g1
      have hmf : Mod S wr wf := mod_grown (hEt.mod _) g2 (fun i hi => (HSS.out i).2 hi)
      clear g1 g2 hnext hbf
      go_wp2
      refine hK _ _ (fun _ _ => ⟨⟨wf, hmf⟩, rfl⟩) ?_
      clear hK K
      refine pi_t 10 rfl (by kernel_rfl) (by kernel_rfl) (fun _ _ _ _ h => h) (fun K hK => ?_)
      go_big_quiet_op
      refine hK _ ?_
      clear hK K
      refine pi_t 11 rfl (by kernel_rfl) (by kernel_rfl) (fun _ _ _ _ h => h) (fun K hK => ?_)
      go_big_quiet_op
      refine hK _ ?_
      clear hK K
      refine pi_l 12 rfl (by kernel_rfl) (fun K hK => ?_)
      go_wp2
      refine hK _ _ (by simp) ?_
      clear hK K
      refine pi_end (by kernel_rfl) ?_
      go_wp2_with fail
      go_roundw
      case rel => exact ⟨k + 1, _, _, by omega, by go_num, hEf.setR (p := ⟨W0.heap.size, 5, none⟩) (Nat.le_refl _) _, (setCell_same HBF.out 5 _).trans rfl, HN.out.setc (by omega) _ _⟩
      case measure => simp [intOf]; omega
    · obtain rfl : k = B + 1 := by omega
      have hgt : ¬ (((B + 1 : Nat) : Int) ≤ C.bits) := by have := HB.out; omega
      have hgt2 : decide (((B + 1 : Nat) : Int) ≤ C.bits) = false := decide_eq_false hgt
      clear hbx
      go_wp2
      go_ret
      exact HM.out.post hok HB.out HBX.out hE.size (by have := HSZ.out; omega) (hE.trans' hE0)
end Go.Proofs.YteoblkcbemeamaaGreat

/- gaugerref15: Copy, Update, Total, Point. -/
namespace Go.Proofs.YteoblkcbemeamaaGreat
set_option linter.unusedVariables false
open Go.RowKit
set_option maxRecDepth 20000 in
set_option maxHeartbeats 8000000 in
theorem RKCopy_c (s t : Nat) (C : Cfg) (B : Nat) (L0 : Nat → RLev) (ls : Nat → List Int) (w : World) (h : RKAt w s t C B L0 ls) :
    Calls Tryz.prog 21 #[.pointer (some ⟨s, 0, none⟩)] w (RKNewPost w C B ls) := by
  have hok := h.ok
  have hb2 := hok.b2
  have hB := h.hB
  have hbd : B ≤ 59 := by omega
  have HB := Lib.hid hB
  have HH := Lib.hid h
  have hls := h.lts
  obtain ⟨cap, hex, hcap⟩ := h.ex
  have c0 := (cell_of hex 0).trans rfl
  have c1 := (cell_of hex 1).trans rfl
  have c2 := (cell_of hex 2).trans rfl
  have c3 := (cell_of hex 3).trans rfl
  have c4 := (cell_of hex 4).trans rfl
  have HEX := Lib.hid hex
  clear hex h hB hb2
  go_enter Tryz.func21, Tryz.ntmps21
  go_wp2_with fail
  clear c0 c1 c2 c3 c4
  go_loopw [4] (fun u4 wr => ∃ (k : Nat) (L : Nat → RLev) (v : Value), k ≤ B + 1 ∧ u4 = .int .i64 k ∧ Ext w wr ∧ wr.heap[w.heap.size]? = some (.cells #[.int .i64 C.bits, .int .i64 C.rows, .int .i64 C.width, .int .i64 C.mode, .int .u64 C.seed, v] 48 (0, 0)) ∧ RMade wr (w.heap.size + 1) C k L ls v) (fun u4 _ => B + 1 - (intOf u4).toNat)
  case atStart => exact ⟨0, fun _ => ⟨0, 0, ⟨0, 0, fun _ => 0, fun _ => 0⟩⟩, _, Nat.zero_le _, rfl, Ext.alloc' _ _, heap_at _ _ rfl, RMade.zero _ _ _ _ _⟩
  case round =>
    obtain ⟨k, L, v, hk, rfl, hE0, hbx, hM⟩ := hrel
    have hHr := HH.out.ext hE0
    have e5 := (cell_of (hE0.keep HEX.out) 5).trans rfl
    have el := hHr.lts
    have hbl := lt_of hbx
    have HBX := Lib.hid hbx
    have HM := Lib.hid hM
    clear hM
    by_cases hlt : k < B + 1
    · have b5 := (cell_of hbx 5).trans rfl
      have ck := hHr.cell (show k ≤ B by omega)
      have lt0 := hHr.ltt
      have HL := Lib.hid (fun W' (hW : Ext wr W') => RLCopy_c (L0 k) C k (ls k) W' ((hHr.lev k (by omega)).ext hW))
      obtain ⟨S, hSS⟩ : ∃ S : Nat → Prop, ∀ i, S i ↔ v.ownBlock = some i := ⟨_, fun _ => Iff.rfl⟩
      have n1 : ¬ S s := fun h => by have := own_blk HM.out.row ((hSS _).1 h); omega
      have n2 : ¬ S w.heap.size := fun h => by have := own_blk HM.out.row ((hSS _).1 h); omega
      have n3 : ¬ S t := fun h => by have := own_blk HM.out.row ((hSS _).1 h); have := HH.out.ltt; omega
      have hkz : (k : Int) < (B : Int) + 1 := by omega
      have HSS := Lib.hid hSS
      clear hbx hSS hHr
      go_wp2_with fail
      have hC0 := afs_drew S wr
      refine pi_start (fun w' => ∃ z : AftS S wr, w' = z.w) [17] (by kernel_rfl) ?_
      refine pi_t 0 rfl (by kernel_rfl) (by kernel_rfl) (fun _ _ _ _ h => h) (fun K hK => ?_)
      go_big_quiet_op
      refine hK _ ?_
      clear hK K
      refine pi_t 1 rfl (by kernel_rfl) (by kernel_rfl) (fun _ _ _ _ h => h) (fun K hK => ?_)
      go_big_quiet_op
      refine hK _ ?_
      clear hK K
      refine pi_t 2 rfl (by kernel_rfl) (by kernel_rfl) (fun _ _ _ _ h => h) (fun K hK => ?_)
      go_big_quiet_op
      refine hK _ ?_
      clear hK K
      refine pi_t 3 rfl (by kernel_rfl) (by kernel_rfl) (fun _ _ _ _ h => h) (fun K hK => ?_)
      go_big_quiet_op
      refine hK _ ?_
      clear hK K
      refine pi_t 5 rfl (by kernel_rfl) (by kernel_rfl) (fun _ _ _ _ h => h) (fun K hK => ?_)
      go_big_quiet_op
      refine hK _ ?_
      clear hK K
      refine pi_t 6 rfl (by kernel_rfl) (by kernel_rfl) (fun _ _ _ _ h => h) (fun K hK => ?_)
      go_big_quiet_op
      refine hK _ ?_
      clear hK K
      refine pi_t 7 rfl (by kernel_rfl) (by kernel_rfl) (fun _ _ _ _ h => h) (fun K hK => ?_)
      go_big_quiet_op
      refine hK _ ?_
      clear hK K
      refine pi_t 9 rfl (by kernel_rfl) (by kernel_rfl) (fun _ _ _ _ h => h) (fun K hK => ?_)
      go_big_quiet_op
      refine hK _ ?_
      clear hK K
      refine pi_c 4 (by assumption) rfl (by kernel_rfl) (by kernel_rfl) (fun _ _ _ _ h => h) (fun K hK => ?_)
      go_big_quiet_op
      refine hK _ ?_
      clear hK K
      refine pi_c 8 (by assumption) rfl (by kernel_rfl) (by kernel_rfl) (fun _ _ _ _ h => h) (fun K hK => ?_)
      go_big_quiet_op
      refine hK _ ?_
      clear hK K
      refine pi_t 10 rfl (by kernel_rfl) (by kernel_rfl) (fun _ _ _ _ h => h) (fun K hK => ?_)
      go_big_quiet_op
      refine hK _ ?_
      clear hK K
      refine pi_c 11 (by assumption) rfl (by kernel_rfl) (by kernel_rfl) (fun _ _ _ _ h => h) (fun K hK => ?_)
      go_big_quiet_op
      refine hK _ ?_
      clear hK K
      refine pi_l 12 rfl (by kernel_rfl) (fun K hK => ?_)
      go_wp2_with (go_at_call 49; refine Calls.mono (HL.out _ (Below.drew (Ext.refl wr))) ?_; rintro e wt ⟨M, rfl, hMv, hMf, hxt⟩)
      have hEt : Ext wr wt := Ext.trans' (Below.drew (Ext.refl wr)) hxt
      refine hK _ _ (fun _ h => afs_step h hxt) ?_
      clear hK K
      have HMV := Lib.hid hMv
      have HMF := Lib.hid (show ∀ j, M.foot C k j → wr.heap.size ≤ j from hMf)
      have HR := Lib.hid (HM.out.ext hEt).row
      have hz := hE0.size
      have hzt := hEt.size
      obtain ⟨i0, z0, hi0, hz0, hz1, hz2, hz3⟩ := info_lp
      clear hMv hMf hxt
      refine pi_l 13 rfl (by kernel_rfl) (fun K hK => ?_)
      go_wp2
      refine hK _ _ (fun _ h => afs_step h (Ext.alloc' _ _)) ?_
      clear hK K
      refine pi_l 14 rfl (by kernel_rfl) (fun K hK => ?_)
      go_wp2_with (at_builtin; refine wpList_appB wt 8 (by decide) (.pointer (some ⟨M.p, 0, none⟩)) rfl (rp L k) v (w.heap.size + 1) 45 HR.out 46 rfl _ _ rfl i0 z0 hi0 hz0 hz1 hz2 hz3 Tryz.underlying46 (by rfl) (by rfl) ?b1 ?b2 ?_)
      case b1 => rw [rp_len]; omega
      case b2 => omega
      intro v' wf g1 g2
      have hEf : Ext w wf := ext_grown (hE0.trans' hEt) g2 (fun i hi => by have := own_blk HR.out hi; omega)
      have hnext := HM.out.next hEt (by omega) HMV.out HMF.out rfl (by rw [List.length_append]; exact g1) g2
      have hbf := (grown_old g2 (show w.heap.size < wt.heap.size by omega) (fun e => by have := own_blk HR.out e.symm; omega)).trans (hEt.keep HBX.out)
      have HN := Lib.hid hnext
      have f5 := frozen_of hbf 5
      have q5 := (cell_of hbf 5).trans rfl
      have ql := lt_of hbf
      have HBF := Lib.hid hbf
      obtain ⟨pv, nv, cv, rfl⟩ := own_slice g1
      have hmf : Mod S wr wf := mod_grown (hEt.mod _) g2 (fun i hi => (HSS.out i).2 hi)
      clear g1 g2 hnext hbf
      go_wp2
      refine hK _ _ (fun _ _ => ⟨⟨wf, hmf⟩, rfl⟩) ?_
      clear hK K
      refine pi_t 15 rfl (by kernel_rfl) (by kernel_rfl) (fun _ _ _ _ h => h) (fun K hK => ?_)
      go_big_quiet_op
      refine hK _ ?_
      clear hK K
      refine pi_t 16 rfl (by kernel_rfl) (by kernel_rfl) (fun _ _ _ _ h => h) (fun K hK => ?_)
      go_big_quiet_op
      refine hK _ ?_
      clear hK K
      refine pi_l 17 rfl (by kernel_rfl) (fun K hK => ?_)
      go_wp2
      refine hK _ _ (by simp) ?_
      clear hK K
      refine pi_end (by kernel_rfl) ?_
      go_wp2_with fail
      go_roundw
      case rel => exact ⟨k + 1, _, _, by omega, by go_num, hEf.setR (p := ⟨w.heap.size, 5, none⟩) (Nat.le_refl _) _, (setCell_same HBF.out 5 _).trans rfl, HN.out.setc (by omega) _ _⟩
      case measure => simp [intOf]; omega
    · obtain rfl : k = B + 1 := by omega
      clear hbx hHr
      go_wp2
      go_ret
      exact HM.out.post hok HB.out HBX.out (Nat.le_refl _) (Nat.le_succ _) hE0
def RKUpdPost (w : World) (s : Nat) (C : Cfg) (B : Nat) (ls : Nat → List Int) (key d : Int) (e : Ending) (w' : World) : Prop :=
  e = .returned (.int .i64 (errK C B ls key d)) ∧ ((errK C B ls key d = 0 ∧ ∃ t L, RKAt w' s t C B L (updK C ls key d) ∧ (∀ k, rkF s t C B L k → k = s ∨ w.heap.size ≤ k) ∧ Mod (fun k => k = s) w w') ∨ (errK C B ls key d ≠ 0 ∧ Ext w w'))
theorem errs_first {C : Cfg} {ls : Nat → List Int} {key d : Int} {n : Nat} (h0 : ∀ m, m < n → lvE C m (ls m) (sh m key) d = 0) (hn : lvE C n (ls n) (sh n key) d ≠ 0) : ∀ {m : Nat}, n < m → errs C ls key d m = lvE C n (ls n) (sh n key) d := by
  intro m hm
  induction m with
  | zero => omega
  | succ m ih =>
    by_cases e : m = n
    · subst e
      show fst_ (errs C ls key d m) _ = _
      rw [errs_zero.2 h0]; rfl
    · show fst_ (errs C ls key d m) _ = _
      rw [ih (by omega)]
      unfold fst_
      rw [decide_eq_false hn]; rfl
theorem errK_neg {C : Cfg} (hok : C.Ok) {B : Nat} (hB : C.bits = B) {ls : Nat → List Int} {key d : Int} (hk0 : 0 ≤ key) (hk : key < keys C 0) (hm : C.mode = 2) (hd : d < 0) : errK C B ls key d = 3 := by
  have h0 : lvE C (0 : Nat) (ls 0) (sh 0 key) d = 3 := by
    have hs : sh 0 key < keys C (0 : Nat) := sh_lt hok (by omega) hk0 hk
    cases hx : isX C (0 : Nat) with
    | true => rw [lvE_x hx]; exact errX_neg hs hm hd
    | false => rw [lvE_s hx]; exact errU_neg hs hm hd
  unfold errK
  rw [decide_eq_false (by omega)]
  show errs C ls key d (B + 1) = 3
  rw [errs_first (n := 0) (fun m hm => by omega) (by rw [h0]; decide) (Nat.succ_pos B), h0]
/-- A stack in which some levels have been told of an update. -/
theorem RKAt.put {w w' : World} {s t : Nat} {C : Cfg} {B : Nat} {L : Nat → RLev} {ls : Nat → List Int} (h : RKAt w s t C B L ls) {n : Nat} (hn : n ≤ B) {l : List Int} (hm : Mod ((L n).foot C n) w w') (hl : RLvAt w' (L n) C n l) : RKAt w' s t C B L (fun m => if m = n then l else ls m) := by
  have ty : ∀ {k : Nat} {cur : Array Value} {T : TypeId} {f : Nat × Nat}, w.heap[k]? = some (.cells cur T f) → (T = 45 ∨ T = 48) → ¬ (L n).foot C n k := fun hb hT hf => by
    have := (h.lev n hn).ty hf hb
    rcases hT with rfl | rfl
    · exact this.1 rfl
    · exact this.2 rfl
  obtain ⟨cap, h1, h2⟩ := h.ex
  obtain ⟨cur, h3, h4⟩ := h.row
  refine ⟨⟨cap, hm.keep h1 (ty h1 (.inr rfl)), h2⟩, ⟨cur, hm.keep h3 (ty h3 (.inl rfl)), h4⟩, fun m hm' => ?_, h.sep, h.ok, h.hB⟩
  by_cases e : m = n
  · subst e; rw [if_pos rfl]; exact hl
  · rw [if_neg e]; exact (h.lev m hm').mod hm (fun k hk hf => h.sep m n hm' hn e k hk hf)
theorem RKAt.cong {w : World} {s t : Nat} {C : Cfg} {B : Nat} {L : Nat → RLev} {ls ls' : Nat → List Int} (h : RKAt w s t C B L ls) (he : ∀ n, n ≤ B → ls n = ls' n) : RKAt w s t C B L ls' :=
  ⟨h.ex, h.row, fun n hn => he n hn ▸ h.lev n hn, h.sep, h.ok, h.hB⟩
def partU (C : Cfg) (ls : Nat → List Int) (key d : Int) (k n : Nat) : List Int := if n < k then updK C ls key d n else ls n
set_option maxRecDepth 20000 in
set_option maxHeartbeats 8000000 in
theorem RKUpdate_c (s t : Nat) (C : Cfg) (B : Nat) (L0 : Nat → RLev) (ls : Nat → List Int) (key d : Int) (w : World) (h : RKAt w s t C B L0 ls) (hk : U64 key) (hd : I64 d) :
    Calls Tryz.prog 27 #[.pointer (some ⟨s, 0, none⟩), .int .u64 key, .int .i64 d] w (RKUpdPost w s C B ls key d) := by
  obtain ⟨hk0, hk1⟩ := hk
  have hok := h.ok
  have hb1 := hok.b1
  have hb2 := hok.b2
  have hB := h.hB
  have hbd : B ≤ 59 := by omega
  have HB := Lib.hid hB
  have HH := Lib.hid h
  have hls := h.lts
  obtain ⟨cap, hex, hcap⟩ := h.ex
  have c0 := (cell_of hex 0).trans rfl
  have c1 := (cell_of hex 1).trans rfl
  have c2 := (cell_of hex 2).trans rfl
  have c3 := (cell_of hex 3).trans rfl
  have c4 := (cell_of hex 4).trans rfl
  have HKY := Lib.hid (fun W' => KeysR_c C hok 0 (Int.le_refl 0) (by omega) W')
  have HD := Lib.hid hd
  have HEX := Lib.hid hex
  clear hex h hB hd
  by_cases hge : keys C 0 ≤ key
  · have he : errK C B ls key d = 2 := by unfold errK; rw [decide_eq_true hge]; rfl
    have hge' : decide (keys C 0 ≤ key) = true := decide_eq_true hge
    unfold RKUpdPost
    rw [he]
    clear he
    go_enter Tryz.func27, Tryz.ntmps27
    go_wp2_with fail
    refine Calls.mono (HKY.out _) ?_
    rintro e w1 ⟨rfl, hx1⟩
    go_wp2
    go_ret
    exact ⟨rfl, by first | exact .inr ⟨by decide, hx1⟩ | exact hx1⟩
  · have hlt : key < keys C 0 := by omega
    have hge' : decide (keys C 0 ≤ key) = false := decide_eq_false hge
    by_cases hmd : C.mode = 2 ∧ d < 0
    · have he : errK C B ls key d = 3 := errK_neg hok HB.out hk0 hlt hmd.1 hmd.2
      obtain ⟨hm, hdn⟩ := hmd
      have hm' : (C.mode == 2) = true := by simpa using hm
      have hdn' : decide (d < 0) = true := decide_eq_true hdn
      unfold RKUpdPost
      rw [he]
      clear he hm
      go_enter Tryz.func27, Tryz.ntmps27
      go_wp2_with fail
      refine Calls.mono (HKY.out _) ?_
      rintro e w1 ⟨rfl, hx1⟩
      have d3 := ((bcell hx1).1 _ _ hls).trans c3
      have dl := Nat.lt_of_lt_of_le hls hx1.size
      go_wp2
      go_ret
      exact ⟨rfl, by first | exact .inr ⟨by decide, hx1⟩ | exact hx1⟩
    · have HNG := Lib.hid hmd
      have herr : errK C B ls key d = errs C ls key d (B + 1) := by unfold errK; rw [hge']; rfl
      have HERR := Lib.hid herr
      clear herr hmd
      go_enter Tryz.func27, Tryz.ntmps27
      go_wp2_with fail
      refine Calls.mono (HKY.out _) ?_
      rintro e w1 ⟨rfl, hx1⟩
      have d3 := ((bcell hx1).1 _ _ hls).trans c3
      have dl := Nat.lt_of_lt_of_le hls hx1.size
      clear c0 c1 c2 c3 c4
      go_upto_region 3 with (fail)
      go_cut [26] (fun s26 wx => s26 = .bool false ∧ wx = w1)
      case first =>
        by_cases hm : C.mode = 2
        · have hm' : (C.mode == 2) = true := by simpa using hm
          have hdn' : decide (d < 0) = false := decide_eq_false (fun h => HNG.out ⟨hm, h⟩)
          have hdn2 : 0 ≤ d := Int.not_lt.mp (fun h => HNG.out ⟨hm, h⟩)
          clear hm
          go_wp2_with fail
          go_meet
          exact ⟨by first | rfl | simp, rfl⟩
        · have hm' : (C.mode == 2) = false := by simpa using hm
          clear hm
          go_wp2_with fail
          go_meet
          exact ⟨rfl, rfl⟩
      case rest =>
        obtain ⟨rfl, rfl⟩ := hcut
        rename World => w1
        clear d3
        have HCP := Lib.hid (RKCopy_c s t C B L0 ls w1 (HH.out.ext hx1))
        go_wp2_with fail
        refine Calls.mono HCP.out ?_
        rintro e w2 ⟨a, t2, L2, rfl, hK2, hF2, hx2⟩
        have HF2 := Lib.hid (show ∀ k, rkF a t2 C B L2 k → w1.heap.size ≤ k from hF2)
        have HK2 : Hid (RKAt w2 a t2 C B L2 (partU C ls key d 0)) := Lib.hid (hK2.cong (fun n _ => by unfold partU; rw [if_neg (Nat.not_lt_zero _)]))
        have hE2 := hx1.trans' hx2
        have hz1 := hx1.size
        clear hK2 hF2 hx2 hx1 dl
        go_wp2_with fail
        go_loopw [8] (fun u8 wr => ∃ k : Nat, k ≤ B + 1 ∧ u8 = .int .i64 k ∧ RKAt wr a t2 C B L2 (partU C ls key d k) ∧ Ext w wr ∧ ∀ m, m < k → lvE C m (ls m) (sh m key) d = 0) (fun u8 _ => B + 1 - (intOf u8).toNat)
        case atStart => exact ⟨0, Nat.zero_le _, rfl, HK2.out, hE2, fun m hm => absurd hm (Nat.not_lt_zero _)⟩
        case round =>
          clear hE2
          obtain ⟨k, hk, rfl, hK, hE, hz⟩ := hrel
          have HZ := Lib.hid hz
          have HK := Lib.hid hK
          have e5 := (cell_of (hE.keep HEX.out) 5).trans rfl
          have el := Nat.lt_of_lt_of_le hls hE.size
          obtain ⟨cap2, hex2, hcap2⟩ := hK.ex
          have a5 := (cell_of hex2 5).trans rfl
          have al := lt_of hex2
          have ltt := hK.ltt
          by_cases hlt2 : k < B + 1
          · have ck := hK.cell (show k ≤ B by omega)
            have hlk := hK.lev k (by omega)
            have hpk : partU C ls key d k k = ls k := by unfold partU; rw [if_neg (Nat.lt_irrefl _)]
            rw [hpk] at hlk
            have hs0 : 0 ≤ sh k key := sh_nn hk0 k
            have hs1 : sh k key < keys C k := sh_lt hok (by have := HB.out; omega) hk0 hlt
            have hs2 := keys_bd C hok k (Int.natCast_nonneg k)
            have hcall : Calls Tryz.prog 50 #[.pointer (some ⟨(L2 k).p, 0, none⟩), .int .u64 (key / 2 ^ k), .int .i64 d] wr (RLUpdPost wr (L2 k) C k (ls k) (sh k key) d) := RLUpdate_c (L2 k) C k (ls k) (sh k key) d wr hlk (by unfold U64; omega) HD.out
            have HCALL := Lib.hid hcall
            have hkz : (k : Int) < (B : Int) + 1 := by omega
            have hk63 : k ≤ 63 := by omega
            clear hz hK hex2 hlk hpk hs0 hs1 hs2 hcall
            go_wp2_with fail
            refine Calls.mono HCALL.out ?_
            rintro e w5 ⟨rfl, hres⟩
            have HRES := Lib.hid hres
            clear hres HCALL
            by_cases he : lvE C k (ls k) (sh k key) d = 0
            · obtain ⟨_, hl5, hM5⟩ := HRES.out.resolve_right (fun h => h.1 he)
              have HL5 := Lib.hid hl5
              have hput := HK.out.put (show k ≤ B by omega) hM5 hl5
              have hE5 : Ext w w5 := Below.trans hE (hM5.below (B := w.heap.size) hE.size (fun j hj => by have := HF2.out j (.inr (.inr ⟨k, by omega, hj⟩)); omega))
              have HPUT : Hid (RKAt w5 a t2 C B L2 (partU C ls key d (k + 1))) := Lib.hid (hput.cong (fun n _ => by
                unfold partU
                by_cases e : n = k
                · subst e; rw [if_pos rfl, if_pos (Nat.lt_succ_self _)]; rfl
                · rw [if_neg e]
                  by_cases e2 : n < k
                  · rw [if_pos e2, if_pos (by omega)]
                  · rw [if_neg e2, if_neg (by omega)]))
              have HE0 := Lib.hid he
              rw [he]
              clear hl5 hM5 hput he HRES
              go_wp2
              go_roundw
              case rel =>
                refine ⟨k + 1, by omega, by go_num, HPUT.out, hE5, fun m hm => ?_⟩
                by_cases e : m = k
                · rw [e]; exact HE0.out
                · exact HZ.out m (by omega)
              case measure => simp [intOf]; omega
            · obtain ⟨_, hx5⟩ := HRES.out.resolve_left (fun h => he h.1)
              have hfin : errK C B ls key d = lvE C k (ls k) (sh k key) d := by rw [HERR.out]; exact errs_first HZ.out he (by omega)
              clear HRES
              generalize lvE C k (ls k) (sh k key) d = er at *
              have HFIN := Lib.hid hfin
              have HE0 := Lib.hid he
              have heb : (er != 0) = true := by simpa using he
              have hEf := hE.trans' hx5
              clear he hfin
              go_wp2
              go_ret
              exact ⟨by rw [HFIN.out]; rfl, .inr ⟨by rw [HFIN.out]; exact HE0.out, hEf⟩⟩
          · obtain rfl : k = B + 1 := by omega
            have fe := frozen_of (hE.keep HEX.out) 5
            have HEXR := Lib.hid (hE.keep HEX.out)
            have h0 : errK C B ls key d = 0 := by rw [HERR.out]; exact errs_zero.2 HZ.out
            have H0 := Lib.hid h0
            clear hz hK hex2 h0
            go_wp2
            go_ret
            refine ⟨by rw [H0.out]; rfl, .inl ⟨H0.out, t2, L2, ⟨⟨cap2, (setCell_same HEXR.out 5 _).trans rfl, hcap2⟩, ?_, fun n hn => ?_, HK.out.sep, hok, HB.out⟩, ?_, (hE.mod _).trans (mod_set _ _ _ _)⟩⟩
            · obtain ⟨cur, h3, h4⟩ := HK.out.row
              exact ⟨cur, (setCell_other _ _ (by have := HF2.out t2 (.inr (.inl rfl)); omega)).trans h3, h4⟩
            · have hl := HK.out.lev n hn
              have hp : partU C ls key d (B + 1) n = updK C ls key d n := by unfold partU; rw [if_pos (by omega)]
              rw [hp] at hl
              exact hl.keep (fun j hj => setCell_other _ _ (by have := HF2.out j (.inr (.inr ⟨n, hn, hj⟩)); omega))
            · rintro j (rfl | rfl | ⟨n, hn, hj⟩)
              · exact .inl rfl
              · exact .inr (by have := HF2.out j (.inr (.inl rfl)); omega)
              · exact .inr (by have := HF2.out j (.inr (.inr ⟨n, hn, hj⟩)); omega)
end Go.Proofs.YteoblkcbemeamaaGreat

/- gaugerref15: Total, Point. -/
namespace Go.Proofs.YteoblkcbemeamaaGreat
set_option linter.unusedVariables false
open Go.RowKit
/-- What a stack answers of a piece. -/
def ptP (C : Cfg) (B : Nat) (ls : Nat → List Int) (lv key x r : Int) : Prop :=
  ((lv < 0 ∨ (B : Int) < lv) ∧ x = 0 ∧ r = 2) ∨ ∃ n : Nat, lv = n ∧ n ≤ B ∧ ptA C n (ls n) key x r
theorem ptP_unique {C : Cfg} {B : Nat} {ls : Nat → List Int} {lv key x r y t : Int} (h : ptP C B ls lv key x r) (h2 : ptP C B ls lv key y t) : x = y ∧ r = t := by
  rcases h with ⟨a, rfl, rfl⟩ | ⟨n, rfl, a, b⟩ <;> rcases h2 with ⟨a2, rfl, rfl⟩ | ⟨m, e, a2, b2⟩
  · exact ⟨rfl, rfl⟩
  · omega
  · omega
  · obtain rfl : n = m := by omega
    exact ptA_unique b b2
set_option maxRecDepth 20000 in
set_option maxHeartbeats 8000000 in
theorem RKTotal_c (s t : Nat) (C : Cfg) (B : Nat) (L : Nat → RLev) (ls : Nat → List Int) (w : World) (h : RKAt w s t C B L ls) :
    Calls Tryz.prog 29 #[.pointer (some ⟨s, 0, none⟩)] w fun e w' => ∃ x r, e = .returned (.int .i64 x) ∧ ptA C B (ls B) 0 x r ∧ Ext w w' := by
  obtain ⟨cap, hex, hcap⟩ := h.ex
  have c5 := (cell_of hex 5).trans rfl
  have hls := lt_of hex
  have ltt := h.ltt
  have ck := h.cell (Nat.le_refl B)
  have hlev := h.lev B (Nat.le_refl B)
  have HP := Lib.hid (fun W' (hE : Ext w W') => RLPoint_c (L B) C B (ls B) 0 W' (hlev.ext hE) (by unfold U64; omega))
  have hbd : B ≤ 59 := by have := h.hB; have := h.ok.b2; omega
  have hb1 : (B : Int) + 1 - 1 = B := by omega
  clear hex h hlev
  go_enter Tryz.func29, Tryz.ntmps29
  go_wp2_with fail
  have hC0 := af_drew w
  refine pi_start (fun w' => ∃ z : After w, w' = z.w) [] (by kernel_rfl) ?_
  refine pi_t 0 rfl (by kernel_rfl) (by kernel_rfl) (fun _ _ _ _ h => h) (fun K hK => ?_)
  go_big_quiet_op
  refine hK _ ?_
  clear hK K
  refine pi_t 1 rfl (by kernel_rfl) (by kernel_rfl) (fun _ _ _ _ h => h) (fun K hK => ?_)
  go_big_quiet_op
  refine hK _ ?_
  clear hK K
  refine pi_t 2 rfl (by kernel_rfl) (by kernel_rfl) (fun _ _ _ _ h => h) (fun K hK => ?_)
  go_big_quiet_op
  refine hK _ ?_
  clear hK K
  refine pi_t 4 rfl (by kernel_rfl) (by kernel_rfl) (fun _ _ _ _ h => h) (fun K hK => ?_)
  go_big_quiet_op
  refine hK _ ?_
  clear hK K
  refine pi_t 5 rfl (by kernel_rfl) (by kernel_rfl) (fun _ _ _ _ h => h) (fun K hK => ?_)
  go_big_quiet_op
  refine hK _ ?_
  clear hK K
  refine pi_t 6 rfl (by kernel_rfl) (by kernel_rfl) (fun _ _ _ _ h => h) (fun K hK => ?_)
  go_big_quiet_op
  refine hK _ ?_
  clear hK K
  refine pi_c 3 (by assumption) rfl (by kernel_rfl) (by kernel_rfl) (fun _ _ _ _ h => h) (fun K hK => ?_)
  go_big_quiet_op
  refine hK _ ?_
  clear hK K
  refine pi_c 7 (by assumption) rfl (by kernel_rfl) (by kernel_rfl) (fun _ _ _ _ h => h) (fun K hK => ?_)
  go_big_quiet_op
  refine hK _ ?_
  clear hK K
  refine pi_t 8 rfl (by kernel_rfl) (by kernel_rfl) (fun _ _ _ _ h => h) (fun K hK => ?_)
  go_big_quiet_op
  refine hK _ ?_
  clear hK K
  refine pi_t 9 rfl (by kernel_rfl) (by kernel_rfl) (fun _ _ _ _ h => h) (fun K hK => ?_)
  go_big_quiet_op
  refine hK _ ?_
  clear hK K
  refine pi_t 10 rfl (by kernel_rfl) (by kernel_rfl) (fun _ _ _ _ h => h) (fun K hK => ?_)
  go_big_quiet_op
  refine hK _ ?_
  clear hK K
  refine pi_c 11 (by assumption) rfl (by kernel_rfl) (by kernel_rfl) (fun _ _ _ _ h => h) (fun K hK => ?_)
  go_big_quiet_op
  refine hK _ ?_
  clear hK K
  refine pi_l 12 rfl (by kernel_rfl) (fun K hK => ?_)
  go_wp2_with (go_at_call 48; refine (HP.out _ (Below.drew (Ext.refl w))).mono ?_; rintro e w1 ⟨x, r, rfl, hp, hx1⟩)
  have hE1 : Ext w w1 := Ext.trans' (Below.drew (Ext.refl w)) hx1
  refine hK _ _ (fun _ h => af_step h hx1) ?_
  clear hK K
  refine pi_t 13 rfl (by kernel_rfl) (by kernel_rfl) (fun _ _ _ _ h => h) (fun K hK => ?_)
  go_big_quiet_op
  refine hK _ ?_
  clear hK K
  refine pi_t 14 rfl (by kernel_rfl) (by kernel_rfl) (fun _ _ _ _ h => h) (fun K hK => ?_)
  go_big_quiet_op
  refine hK _ ?_
  clear hK K
  refine pi_t 15 rfl (by kernel_rfl) (by kernel_rfl) (fun _ _ _ _ h => h) (fun K hK => ?_)
  go_big_quiet_op
  refine hK _ ?_
  clear hK K
  refine pi_t 16 rfl (by kernel_rfl) (by kernel_rfl) (fun _ _ _ _ h => h) (fun K hK => ?_)
  go_big_quiet_op
  refine hK _ ?_
  clear hK K
  refine pi_t 17 rfl (by kernel_rfl) (by kernel_rfl) (fun _ _ _ _ h => h) (fun K hK => ?_)
  go_big_quiet_op
  refine hK _ ?_
  clear hK K
  refine pi_end (by kernel_rfl) ?_
  have HPT := Lib.hid hp
  clear hp
  go_wp2
  go_ret
  exact ⟨x, r, rfl, HPT.out, hE1⟩
set_option maxRecDepth 20000 in
set_option maxHeartbeats 8000000 in
theorem RKPoint_c (s t : Nat) (C : Cfg) (B : Nat) (L : Nat → RLev) (ls : Nat → List Int) (lv key : Int) (hlv : I64 lv) (hk : U64 key) (w : World) (h : RKAt w s t C B L ls) :
    Calls Tryz.prog 19 #[.pointer (some ⟨s, 0, none⟩), .agg #[.int .i64 lv, .int .u64 key]] w fun e w' => ∃ x r, e = .returned (.tuple #[.int .i64 x, .int .i64 r]) ∧ ptP C B ls lv key x r ∧ Ext w w' := by
  obtain ⟨w0, hw0⟩ : ∃ w0, w.alloc (.cells #[.int .i64 lv, .int .u64 key] 39) = w0 := ⟨_, rfl⟩
  have hz0 : w0.heap[w.heap.size]? = some (.cells #[.int .i64 lv, .int .u64 key] 39 (0, 0)) := by rw [← hw0]; exact heap_at _ _ rfl
  have hE0 : Ext w w0 := by rw [← hw0]; exact Ext.alloc' _ _
  have h' := h.ext hE0
  obtain ⟨cap, hex, hcap⟩ := h'.ex
  have c5 := (cell_of hex 5).trans rfl
  have hls := lt_of hex
  have p0 := (cell_of hz0 0).trans rfl
  have p1 := (cell_of hz0 1).trans rfl
  have pl := lt_of hz0
  have hbd : B ≤ 59 := by have := h.hB; have := h.ok.b2; omega
  have H := Lib.hid h'
  clear hex h' h hz0
  by_cases hneg : lv < 0
  · have hn' := decide_eq_true hneg
    go_enter Tryz.func19, Tryz.ntmps19
    go_upto_region 1 with (fail)
    try rw [hw0]
    go_wp2_with fail
    have hC0 := af_drew w0
    refine pi_start (fun w' => ∃ z : After w0, w' = z.w) [] (by kernel_rfl) ?_
    refine pi_t 0 rfl (by kernel_rfl) (by kernel_rfl) (fun _ _ _ _ h => h) (fun K hK => ?_)
    go_big_quiet_op
    refine hK _ ?_
    clear hK K
    refine pi_c 1 (by assumption) rfl (by kernel_rfl) (by kernel_rfl) (fun _ _ _ _ h => h) (fun K hK => ?_)
    go_big_quiet_op
    refine hK _ ?_
    clear hK K
    refine pi_t 2 rfl (by kernel_rfl) (by kernel_rfl) (fun _ _ _ _ h => h) (fun K hK => ?_)
    go_big_quiet_op
    refine hK _ ?_
    clear hK K
    refine pi_t 3 rfl (by kernel_rfl) (by kernel_rfl) (fun _ _ _ _ h => h) (fun K hK => ?_)
    go_big_quiet_op
    refine hK _ ?_
    clear hK K
    refine pi_no 4 rfl (by kernel_rfl) (by kernel_rfl) (fun _ _ _ _ h => h) ?_
    simp only [Act.put, List.setIfInBounds_toArray, List.set_cons_zero, List.set_cons_succ]
    refine pi_no 5 rfl (by kernel_rfl) (by kernel_rfl) (fun _ _ _ _ h => h) ?_
    simp only [Act.put, List.setIfInBounds_toArray, List.set_cons_zero, List.set_cons_succ]
    refine pi_no 6 rfl (by kernel_rfl) (by kernel_rfl) (fun _ _ _ _ h => h) ?_
    simp only [Act.put, List.setIfInBounds_toArray, List.set_cons_zero, List.set_cons_succ]
    refine pi_no 7 rfl (by kernel_rfl) (by kernel_rfl) (fun _ _ _ _ h => h) ?_
    simp only [Act.put, List.setIfInBounds_toArray, List.set_cons_zero, List.set_cons_succ]
    refine pi_no 8 rfl (by kernel_rfl) (by kernel_rfl) (fun _ _ _ _ h => h) ?_
    simp only [Act.put, List.setIfInBounds_toArray, List.set_cons_zero, List.set_cons_succ]
    refine pi_no 9 rfl (by kernel_rfl) (by kernel_rfl) (fun _ _ _ _ h => h) ?_
    simp only [Act.put, List.setIfInBounds_toArray, List.set_cons_zero, List.set_cons_succ]
    refine pi_no 10 rfl (by kernel_rfl) (by kernel_rfl) (fun _ _ _ _ h => h) ?_
    simp only [Act.put, List.setIfInBounds_toArray, List.set_cons_zero, List.set_cons_succ]
    refine pi_no 11 rfl (by kernel_rfl) (by kernel_rfl) (fun _ _ _ _ h => h) ?_
    simp only [Act.put, List.setIfInBounds_toArray, List.set_cons_zero, List.set_cons_succ]
    refine pi_t 12 rfl (by kernel_rfl) (by kernel_rfl) (fun _ _ _ _ h => h) (fun K hK => ?_)
    go_big_quiet_op
    refine hK _ ?_
    clear hK K
    refine pi_end (by kernel_rfl) ?_
    go_wp2
    go_ret2
    exact ⟨0, 2, rfl, .inl ⟨.inl hneg, rfl, rfl⟩, hE0.drewR⟩
  · have hn' := decide_eq_false hneg
    obtain ⟨n, rfl⟩ : ∃ n : Nat, lv = n := ⟨lv.toNat, by omega⟩
    by_cases hbig : n ≤ B
    · have hg' : decide ((B : Int) + 1 ≤ n) = false := decide_eq_false (by omega)
      have hlev := H.out.lev n hbig
      have ck := H.out.cell hbig
      have ltt := H.out.ltt
      have HP := Lib.hid (fun W' (hE : Ext w0 W') => RLPoint_c (L n) C n (ls n) key W' (hlev.ext hE) hk)
      clear hlev hneg
      go_enter Tryz.func19, Tryz.ntmps19
      go_upto_region 1 with (fail)
      try rw [hw0]
      go_wp2_with fail
      have hC0 := af_drew w0
      refine pi_start (fun w' => ∃ z : After w0, w' = z.w) [] (by kernel_rfl) ?_
      refine pi_t 0 rfl (by kernel_rfl) (by kernel_rfl) (fun _ _ _ _ h => h) (fun K hK => ?_)
      go_big_quiet_op
      refine hK _ ?_
      clear hK K
      refine pi_c 1 (by assumption) rfl (by kernel_rfl) (by kernel_rfl) (fun _ _ _ _ h => h) (fun K hK => ?_)
      go_big_quiet_op
      refine hK _ ?_
      clear hK K
      refine pi_t 2 rfl (by kernel_rfl) (by kernel_rfl) (fun _ _ _ _ h => h) (fun K hK => ?_)
      go_big_quiet_op
      refine hK _ ?_
      clear hK K
      refine pi_t 3 rfl (by kernel_rfl) (by kernel_rfl) (fun _ _ _ _ h => h) (fun K hK => ?_)
      go_big_quiet_op
      refine hK _ ?_
      clear hK K
      refine pi_t 4 rfl (by kernel_rfl) (by kernel_rfl) (fun _ _ _ _ h => h) (fun K hK => ?_)
      go_big_quiet_op
      refine hK _ ?_
      clear hK K
      refine pi_t 6 rfl (by kernel_rfl) (by kernel_rfl) (fun _ _ _ _ h => h) (fun K hK => ?_)
      go_big_quiet_op
      refine hK _ ?_
      clear hK K
      refine pi_t 7 rfl (by kernel_rfl) (by kernel_rfl) (fun _ _ _ _ h => h) (fun K hK => ?_)
      go_big_quiet_op
      refine hK _ ?_
      clear hK K
      refine pi_t 8 rfl (by kernel_rfl) (by kernel_rfl) (fun _ _ _ _ h => h) (fun K hK => ?_)
      go_big_quiet_op
      refine hK _ ?_
      clear hK K
      refine pi_c 5 (by assumption) rfl (by kernel_rfl) (by kernel_rfl) (fun _ _ _ _ h => h) (fun K hK => ?_)
      go_big_quiet_op
      refine hK _ ?_
      clear hK K
      refine pi_c 9 (by assumption) rfl (by kernel_rfl) (by kernel_rfl) (fun _ _ _ _ h => h) (fun K hK => ?_)
      go_big_quiet_op
      refine hK _ ?_
      clear hK K
      refine pi_t 10 rfl (by kernel_rfl) (by kernel_rfl) (fun _ _ _ _ h => h) (fun K hK => ?_)
      go_big_quiet_op
      refine hK _ ?_
      clear hK K
      refine pi_t 11 rfl (by kernel_rfl) (by kernel_rfl) (fun _ _ _ _ h => h) (fun K hK => ?_)
      go_big_quiet_op
      refine hK _ ?_
      clear hK K
      refine pi_t 12 rfl (by kernel_rfl) (by kernel_rfl) (fun _ _ _ _ h => h) (fun K hK => ?_)
      go_big_quiet_op
      refine hK _ ?_
      clear hK K
      refine pi_end (by kernel_rfl) ?_
      go_wp2_with fail
      have hC0 : ∃ z : After w0, w0.drew.drew = z.w := ⟨⟨_, (Ext.refl w0).drewR.drewR⟩, rfl⟩
      refine pi_start (fun w' => ∃ z : After w0, w' = z.w) [] (by kernel_rfl) ?_
      refine pi_t 0 rfl (by kernel_rfl) (by kernel_rfl) (fun _ _ _ _ h => h) (fun K hK => ?_)
      go_big_quiet_op
      refine hK _ ?_
      clear hK K
      refine pi_t 1 rfl (by kernel_rfl) (by kernel_rfl) (fun _ _ _ _ h => h) (fun K hK => ?_)
      go_big_quiet_op
      refine hK _ ?_
      clear hK K
      refine pi_t 2 rfl (by kernel_rfl) (by kernel_rfl) (fun _ _ _ _ h => h) (fun K hK => ?_)
      go_big_quiet_op
      refine hK _ ?_
      clear hK K
      refine pi_t 4 rfl (by kernel_rfl) (by kernel_rfl) (fun _ _ _ _ h => h) (fun K hK => ?_)
      go_big_quiet_op
      refine hK _ ?_
      clear hK K
      refine pi_t 8 rfl (by kernel_rfl) (by kernel_rfl) (fun _ _ _ _ h => h) (fun K hK => ?_)
      go_big_quiet_op
      refine hK _ ?_
      clear hK K
      refine pi_c 3 (by assumption) rfl (by kernel_rfl) (by kernel_rfl) (fun _ _ _ _ h => h) (fun K hK => ?_)
      go_big_quiet_op
      refine hK _ ?_
      clear hK K
      refine pi_c 5 (by assumption) rfl (by kernel_rfl) (by kernel_rfl) (fun _ _ _ _ h => h) (fun K hK => ?_)
      go_big_quiet_op
      refine hK _ ?_
      clear hK K
      refine pi_t 6 rfl (by kernel_rfl) (by kernel_rfl) (fun _ _ _ _ h => h) (fun K hK => ?_)
      go_big_quiet_op
      refine hK _ ?_
      clear hK K
      refine pi_c 7 (by assumption) rfl (by kernel_rfl) (by kernel_rfl) (fun _ _ _ _ h => h) (fun K hK => ?_)
      go_big_quiet_op
      refine hK _ ?_
      clear hK K
      refine pi_c 9 (by assumption) rfl (by kernel_rfl) (by kernel_rfl) (fun _ _ _ _ h => h) (fun K hK => ?_)
      go_big_quiet_op
      refine hK _ ?_
      clear hK K
      refine pi_l 10 rfl (by kernel_rfl) (fun K hK => ?_)
      go_wp2_with (go_at_call 48; refine (HP.out _ (Ext.refl w0).drewR.drewR).mono ?_; rintro e w1 ⟨x, r, rfl, hp, hx1⟩)
      have hE1 : Ext w0 w1 := Ext.trans' (Ext.refl w0).drewR.drewR hx1
      refine hK _ _ (fun _ h => af_step h hx1) ?_
      clear hK K
      refine pi_t 11 rfl (by kernel_rfl) (by kernel_rfl) (fun _ _ _ _ h => h) (fun K hK => ?_)
      go_big_quiet_op
      refine hK _ ?_
      clear hK K
      refine pi_t 12 rfl (by kernel_rfl) (by kernel_rfl) (fun _ _ _ _ h => h) (fun K hK => ?_)
      go_big_quiet_op
      refine hK _ ?_
      clear hK K
      refine pi_t 13 rfl (by kernel_rfl) (by kernel_rfl) (fun _ _ _ _ h => h) (fun K hK => ?_)
      go_big_quiet_op
      refine hK _ ?_
      clear hK K
      refine pi_t 14 rfl (by kernel_rfl) (by kernel_rfl) (fun _ _ _ _ h => h) (fun K hK => ?_)
      go_big_quiet_op
      refine hK _ ?_
      clear hK K
      refine pi_end (by kernel_rfl) ?_
      have HPT := Lib.hid hp
      clear hp
      go_wp2
      go_ret2
      exact ⟨x, r, rfl, .inr ⟨n, rfl, hbig, HPT.out⟩, hE0.trans' hE1⟩
    · have hg' : decide ((B : Int) + 1 ≤ n) = true := decide_eq_true (by omega)
      go_enter Tryz.func19, Tryz.ntmps19
      go_upto_region 1 with (fail)
      try rw [hw0]
      go_wp2_with fail
      have hC0 := af_drew w0
      refine pi_start (fun w' => ∃ z : After w0, w' = z.w) [] (by kernel_rfl) ?_
      refine pi_t 0 rfl (by kernel_rfl) (by kernel_rfl) (fun _ _ _ _ h => h) (fun K hK => ?_)
      go_big_quiet_op
      refine hK _ ?_
      clear hK K
      refine pi_c 1 (by assumption) rfl (by kernel_rfl) (by kernel_rfl) (fun _ _ _ _ h => h) (fun K hK => ?_)
      go_big_quiet_op
      refine hK _ ?_
      clear hK K
      refine pi_t 2 rfl (by kernel_rfl) (by kernel_rfl) (fun _ _ _ _ h => h) (fun K hK => ?_)
      go_big_quiet_op
      refine hK _ ?_
      clear hK K
      refine pi_t 3 rfl (by kernel_rfl) (by kernel_rfl) (fun _ _ _ _ h => h) (fun K hK => ?_)
      go_big_quiet_op
      refine hK _ ?_
      clear hK K
      refine pi_t 4 rfl (by kernel_rfl) (by kernel_rfl) (fun _ _ _ _ h => h) (fun K hK => ?_)
      go_big_quiet_op
      refine hK _ ?_
      clear hK K
      refine pi_t 6 rfl (by kernel_rfl) (by kernel_rfl) (fun _ _ _ _ h => h) (fun K hK => ?_)
      go_big_quiet_op
      refine hK _ ?_
      clear hK K
      refine pi_t 7 rfl (by kernel_rfl) (by kernel_rfl) (fun _ _ _ _ h => h) (fun K hK => ?_)
      go_big_quiet_op
      refine hK _ ?_
      clear hK K
      refine pi_t 8 rfl (by kernel_rfl) (by kernel_rfl) (fun _ _ _ _ h => h) (fun K hK => ?_)
      go_big_quiet_op
      refine hK _ ?_
      clear hK K
      refine pi_c 5 (by assumption) rfl (by kernel_rfl) (by kernel_rfl) (fun _ _ _ _ h => h) (fun K hK => ?_)
      go_big_quiet_op
      refine hK _ ?_
      clear hK K
      refine pi_c 9 (by assumption) rfl (by kernel_rfl) (by kernel_rfl) (fun _ _ _ _ h => h) (fun K hK => ?_)
      go_big_quiet_op
      refine hK _ ?_
      clear hK K
      refine pi_t 10 rfl (by kernel_rfl) (by kernel_rfl) (fun _ _ _ _ h => h) (fun K hK => ?_)
      go_big_quiet_op
      refine hK _ ?_
      clear hK K
      refine pi_t 11 rfl (by kernel_rfl) (by kernel_rfl) (fun _ _ _ _ h => h) (fun K hK => ?_)
      go_big_quiet_op
      refine hK _ ?_
      clear hK K
      refine pi_t 12 rfl (by kernel_rfl) (by kernel_rfl) (fun _ _ _ _ h => h) (fun K hK => ?_)
      go_big_quiet_op
      refine hK _ ?_
      clear hK K
      refine pi_end (by kernel_rfl) ?_
      go_wp2
      go_ret2
      exact ⟨0, 2, rfl, .inl ⟨.inr (by omega), rfl, rfl⟩, hE0.drewR⟩
end Go.Proofs.YteoblkcbemeamaaGreat
