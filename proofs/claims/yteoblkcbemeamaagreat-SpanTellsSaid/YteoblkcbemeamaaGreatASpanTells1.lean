/- SpanTells: what a span, its parts and a rank are told is what the document says, of raw updates. No condition: every input. -/
import Derived.Test.YteoblkcbemeamaaGreatL1
import Derived.Test.YteoblkcbemeamaaGreatL14
import Derived.Test.YteoblkcbemeamaaGreatL6
import Derived.Test.YteoblkcbemeamaaGreatL15
import Derived.Test.YteoblkcbemeamaaGreatL4
import Derived.Test.YteoblkcbemeamaaGreatL18
import Derived.Test.YteoblkcbemeamaaGreatL8
import Derived.Test.YteoblkcbemeamaaGreatL3
import Derived.Test.YteoblkcbemeamaaGreatL19
import Derived.Test.YteoblkcbemeamaaGreatL20
import Derived.Test.YteoblkcbemeamaaGreatL10

/- gaugerref14.two: a power of two. -/
namespace Go.Proofs.YteoblkcbemeamaaGreat
set_option linter.unusedVariables false
open Go.RowKit
theorem two_bd (k : Nat) (h : k ≤ 59) : (1 : Int) ≤ 2 ^ k ∧ (2 : Int) ^ k ≤ 576460752303423488 := pow_bd k h
set_option maxRecDepth 20000 in
set_option maxHeartbeats 2000000 in
theorem TwoR_c (n : Nat) (hn : n ≤ 59) (w : World) :
    Calls Tryz.prog 141 #[.int .i64 n] w fun e w' => e = .returned (.int .u64 ((2 : Int) ^ n)) ∧ w = w' := by
  go_enter Tryz.func141, Tryz.ntmps141
  go_wp2
  go_loop [3, 4] (fun p u => ∃ (k : Nat) (q : Int), k ≤ n ∧ p = .int .u64 q ∧ u = .int .i64 k ∧ q = (2 : Int) ^ k) (fun _ u => n - (intOf u).toNat)
  case atStart => exact ⟨0, 1, Nat.zero_le _, rfl, rfl, rfl⟩
  case round =>
    obtain ⟨k, q, hk, rfl, rfl, hq⟩ := hrel
    have hb := two_bd k (by omega)
    rw [← hq] at hb
    obtain ⟨b1, b2⟩ := hb
    have HQ := Lib.hid hq
    clear hq
    by_cases hlt : k < n
    · have hlt' : (k : Int) < n := by omega
      go_wp2
      go_round
      case rel => exact ⟨k + 1, q + q, by omega, rfl, by push_cast; rfl, by rw [HQ.out, Int.pow_succ]; omega⟩
      case measure => simp [intOf]; omega
    · obtain rfl : k = n := by omega
      go_wp2
      go_ret
      exact ⟨by rw [← HQ.out]; rfl, rfl⟩
end Go.Proofs.YteoblkcbemeamaaGreat

/- gaugerref14.Cover, walked. -/
namespace Go.Proofs.YteoblkcbemeamaaGreat
set_option linter.unusedVariables false
open Go.RowKit
theorem gLev_bd {lo hi : Int} : ∀ (f l : Nat), (2 : Int) ^ l - 1 ≤ hi - lo → gLev lo hi f l ≤ l + f ∧ (2 : Int) ^ gLev lo hi f l - 1 ≤ hi - lo
  | 0, l, h => ⟨Nat.le_refl _, h⟩
  | f + 1, l, h => by
    unfold gLev
    by_cases hc : lo % 2 ^ (l + 1) = 0 ∧ 2 ^ (l + 1) - 1 ≤ hi - lo
    · rw [if_pos hc]
      have := gLev_bd f (l + 1) hc.2
      exact ⟨by omega, this.2⟩
    · rw [if_neg hc]
      exact ⟨by omega, h⟩
theorem gLev_step {lo hi : Int} {B l : Nat} (hl : l < B) (hc : lo % 2 ^ (l + 1) = 0 ∧ (2 : Int) ^ (l + 1) - 1 ≤ hi - lo) : gLev lo hi (B - l) l = gLev lo hi (B - (l + 1)) (l + 1) := by
  rw [show B - l = (B - (l + 1)) + 1 by omega]
  conv => lhs; unfold gLev
  rw [if_pos hc]
theorem gLev_stop {lo hi : Int} {B l : Nat} (hlB : l ≤ B) (hc : ¬ (l < B ∧ lo % 2 ^ (l + 1) = 0 ∧ (2 : Int) ^ (l + 1) - 1 ≤ hi - lo)) : gLev lo hi (B - l) l = l := by
  rcases Nat.lt_or_ge l B with hl | hl
  · rw [show B - l = (B - (l + 1)) + 1 by omega]
    conv => lhs; unfold gLev
    rw [if_neg (fun h2 => hc ⟨hl, h2⟩)]
  · rw [show B - l = 0 by omega]
    rfl
theorem gCov_out {B : Nat} {hi lo : Int} (h : hi < lo) : ∀ f, gCov B hi f lo = []
  | 0 => rfl
  | f + 1 => by unfold gCov; rw [if_neg (by omega)]
def RCovPost (w : World) (B : Nat) (lo hi : Int) (e : Ending) (w' : World) : Prop :=
  ((hi < lo ∨ 2 ^ B ≤ hi) ∧ ∃ v, e = .returned (.tuple #[v, .bool false]) ∧ Ext w w') ∨
  ((lo ≤ hi ∧ hi < 2 ^ B) ∧ ∃ v, e = .returned (.tuple #[v, .bool true]) ∧ w'.ownsRow w.heap.size 39 2 v (covL B 0 lo hi).length (pcV (covL B 0 lo hi)) ∧ Ext w w')
set_option maxRecDepth 20000 in
set_option maxHeartbeats 8000000 in
theorem RCover_c (B : Nat) (hB1 : 1 ≤ B) (hB2 : B ≤ 59) (lo hi : Int) (hlo : U64 lo) (hhi : U64 hi) (w : World) :
    Calls Tryz.prog 91 #[.int .i64 B, .int .u64 lo, .int .u64 hi] w (RCovPost w B lo hi) := by
  obtain ⟨hlo0, hlo1⟩ := hlo
  obtain ⟨hhi0, hhi1⟩ := hhi
  have hpw := pow_bd B hB2
  have hb1' : (1 : Int) ≤ B := by omega
  by_cases h1 : hi < lo
  · go_enter Tryz.func91, Tryz.ntmps91
    go_wp2
    go_ret2
    exact .inl ⟨.inl h1, _, rfl, Ext.alloc' _ _⟩
  · have HTW := Lib.hid (fun W' => TwoR_c B hB2 W')
    by_cases h2 : 2 ^ B ≤ hi
    · have H2 := Lib.hid h2
      obtain ⟨p, hpp⟩ : ∃ p, (2 : Int) ^ B = p := ⟨_, rfl⟩
      rw [hpp] at hpw h2
      have hHT : ∀ W' : World, Calls Tryz.prog 141 #[.int .i64 B] W' fun e w' => e = .returned (.int .u64 p) ∧ W' = w' := fun W' => by rw [← hpp]; exact TwoR_c B hB2 W'
      have HHT := Lib.hid hHT
      clear hpp hHT HTW
      go_enter Tryz.func91, Tryz.ntmps91
      go_wp2_with fail
      refine (HHT.out _).mono ?_
      rintro e w1 ⟨rfl, rfl⟩
      go_wp2
      go_ret2
      exact .inl ⟨.inr H2.out, _, rfl, Ext.alloc' _ _⟩
    · have HF := Lib.hid (show (lo ≤ hi ∧ hi < 2 ^ B) from ⟨by omega, by omega⟩)
      obtain ⟨f0, hf0⟩ : ∃ f0 : Nat, f0 = (hi + 1 - lo).toNat + 2 * B + 2 := ⟨_, rfl⟩
      have HST := Lib.hid (cov_same hlo0 HF.out.1 HF.out.2 (f := f0) (by omega))
      have hf0' : hi + 1 - lo < f0 := by omega
      have HB59 := Lib.hid hB2
      obtain ⟨i0, z0, hi0, hz0, hz1, hz2, hzs⟩ := info_pc
      obtain ⟨p, hpp⟩ : ∃ p, (2 : Int) ^ B = p := ⟨_, rfl⟩
      rw [hpp] at hpw h2
      have hHT : ∀ W' : World, Calls Tryz.prog 141 #[.int .i64 B] W' fun e w' => e = .returned (.int .u64 p) ∧ W' = w' := fun W' => by rw [← hpp]; exact TwoR_c B hB2 W'
      have HHT := Lib.hid hHT
      clear hf0 hpp hHT HTW
      go_enter Tryz.func91, Tryz.ntmps91
      go_wp2_with fail
      refine (HHT.out _).mono ?_
      rintro e w1 ⟨rfl, rfl⟩
      have ho0 : (w.alloc (.cells #[] 39)).ownsRow w.heap.size 39 2 (.slice (some ⟨w.heap.size, 0, none⟩) 0 0) ([] : List (Nat × Int)).length (pcV []) := ⟨rfl, .inr ⟨w.heap.size, 0, #[], rfl, Nat.le_refl _, heap_at _ _ rfl, Nat.le_refl _, Nat.zero_le _, rfl, rfl⟩⟩
      have HO0 := Lib.hid ho0
      clear ho0
      go_wp2_with fail
      go_loopw [1, 8] (fun u1 u8 wr => ∃ (a : Int) (f : Nat) (pre : List (Nat × Int)), u1 = .int .u64 a ∧ 0 ≤ a ∧ a ≤ hi + 1 ∧ hi + 1 - a < f ∧ pre ++ gCov B hi f a = covL B 0 lo hi ∧ wr.ownsRow w.heap.size 39 2 u8 pre.length (pcV pre) ∧ Ext w wr) (fun u1 _ _ => (hi + 1 - intOf u1).toNat)
      case atStart => exact ⟨lo, f0, [], rfl, hlo0, by omega, hf0', by rw [List.nil_append]; exact HST.out, HO0.out, Ext.alloc' _ _⟩
      case round =>
        clear HO0 HST hf0'
        obtain ⟨a, f, pre, rfl, ha0, ha1, hf, hcov, hown, hE⟩ := hrel
        obtain ⟨pv, cv, rfl⟩ := own_sl hown
        have HO := Lib.hid hown
        have HE := Lib.hid hE
        have hlen : pre.length ≤ 1000000000 := by
          have h3 := congrArg List.length hcov
          rw [List.length_append] at h3
          have h4 := cov_len B 0 lo hi
          omega
        have HLEN := Lib.hid hlen
        clear hown hlen
        by_cases hgo : a ≤ hi
        · obtain ⟨f, rfl⟩ : ∃ f', f = f' + 1 := ⟨f - 1, by omega⟩
          have hgc : gCov B hi (f + 1) a = (gLev a hi B 0, a / 2 ^ gLev a hi B 0) :: gCov B hi f (a + 2 ^ gLev a hi B 0) := by
            conv => lhs; unfold gCov
            rw [if_pos hgo]
          rw [hgc] at hcov
          have HC := Lib.hid hcov
          clear hcov hgc
          go_wp2_with fail
          go_loopw [9] (fun u9 wx => ∃ l : Nat, u9 = .int .i64 l ∧ l ≤ B ∧ gLev a hi (B - l) l = gLev a hi B 0 ∧ (2 : Int) ^ l - 1 ≤ hi - a ∧ wx = wr) (fun u9 _ => B - (intOf u9).toNat)
          case atStart => exact ⟨0, rfl, Nat.zero_le _, rfl, by show (1 : Int) - 1 ≤ _; omega, rfl⟩
          case round =>
            obtain ⟨l, rfl, hlB, hgl, hbd, rfl⟩ := hrel
            rename World => wr
            have HGL := Lib.hid hgl
            have HBD := Lib.hid hbd
            clear hgl hbd
            go_upto_region 6 with (fail)
            go_cut [52] (fun s52 wx => s52 = .bool (decide (l < B ∧ a % 2 ^ (l + 1) = 0 ∧ (2 : Int) ^ (l + 1) - 1 ≤ hi - a)) ∧ wx = wr)
            case first =>
              by_cases hl : l < B
              · have hlz : (l : Int) < B := by omega
                have hqb := pow_bd (l + 1) (by omega)
                have hT : ∀ W' : World, Calls Tryz.prog 141 #[.int .i64 ((l : Int) + 1)] W' fun e w' => e = .returned (.int .u64 ((2 : Int) ^ (l + 1))) ∧ W' = w' := fun W' => by
                  have h := TwoR_c (l + 1) (by omega) W'
                  rwa [show ((l + 1 : Nat) : Int) = (l : Int) + 1 by omega] at h
                have HT := Lib.hid hT
                clear hT
                generalize (2 : Int) ^ (l + 1) = q at *
                have hq0 : (q == 0) = false := by simp; omega
                have htm : a.tmod q = a % q := Int.tmod_eq_emod_of_nonneg ha0
                by_cases hm : a % q = 0
                · have hm' : (a % q == 0) = true := by simpa using hm
                  have hz : a.tmod q = 0 := htm.trans hm
                  go_wp2_with (go_at_call 141; refine (HT.out _).mono ?_; rintro e w1 ⟨rfl, rfl⟩)
                  go_meet
                  refine ⟨congrArg Value.bool ?_, rfl⟩
                  by_cases hx : q - 1 ≤ hi - a
                  · simp [hl, hm, hx]
                  · simp [hl, hm, hx]
                · have hm' : (a % q == 0) = false := by simpa using hm
                  go_wp2_with (go_at_call 141; refine (HT.out _).mono ?_; rintro e w1 ⟨rfl, rfl⟩)
                  go_meet
                  exact ⟨congrArg Value.bool (decide_eq_false (fun h => hm h.2.1)).symm, rfl⟩
              · have hlz : ¬ (l : Int) < B := by omega
                go_wp2_with fail
                go_meet
                exact ⟨congrArg Value.bool (decide_eq_false (fun h => hl h.1)).symm, rfl⟩
            case rest =>
              obtain ⟨rfl, rfl⟩ := hcut
              rename World => wr
              by_cases hc : l < B ∧ a % 2 ^ (l + 1) = 0 ∧ (2 : Int) ^ (l + 1) - 1 ≤ hi - a
              · rw [decide_eq_true hc]
                have HCC := Lib.hid hc
                have hl := hc.1
                clear hc
                go_wp2_with fail
                go_roundw
                case rel =>
                  exact ⟨l + 1, by go_num, hl, (gLev_step hl HCC.out.2).symm.trans HGL.out, HCC.out.2.2, by first | rfl | trivial⟩
                case measure => simp [intOf]; omega
              · rw [decide_eq_false hc]
                have hlev : gLev a hi B 0 = l := HGL.out.symm.trans (gLev_stop hlB hc)
                have hcv := HC.out
                rw [hlev] at hcv
                have hqb := pow_bd l (by omega)
                have hbd := HBD.out
                have hT : ∀ W' : World, Calls Tryz.prog 141 #[.int .i64 l] W' fun e w' => e = .returned (.int .u64 ((2 : Int) ^ l)) ∧ W' = w' := fun W' => TwoR_c l (by omega) W'
                have HT := Lib.hid hT
                clear hc hlev hT HC HBD HGL
                generalize (2 : Int) ^ l = q at *
                have hq0 : (q == 0) = false := by simp; omega
                have htd : a.tdiv q = a / q := Int.tdiv_eq_ediv_of_nonneg ha0
                have hm0 : 0 ≤ a / q := Int.ediv_nonneg ha0 (by omega)
                have hm1 : a / q ≤ a := Int.ediv_le_self _ ha0
                generalize a / q = m at *
                have hm2 : m < 18446744073709551616 := by omega
                have HCV := Lib.hid hcv
                clear hcv
                go_wp2_with fail
                refine (HT.out _).mono ?_
                rintro e w1 ⟨rfl, rfl⟩
                go_wp2_with (at_builtin; refine wpList_appp _ (l, m) pre _ w.heap.size 39 39 HO.out 73 rfl _ _ rfl i0 z0 hi0 hz0 hz1 hz2 hzs Tryz.underlying73 rfl rfl HLEN.out HE.out.size ?_)
                intro v' w2 hw1 hw2 hw3
                have hE2 : Ext w w2 := ext_grown HE.out hw2 (fun k hk => own_blk HO.out hk)
                obtain ⟨pv2, cv2, rfl⟩ := own_sl hw1
                have HW1 := Lib.hid hw1
                clear hw1 hw2 hw3
                go_wp2_with fail
                refine (HT.out _).mono ?_
                rintro e w3 ⟨rfl, rfl⟩
                go_wp2_with fail
                go_roundw
                case rel =>
                  refine ⟨a + q, f, pre ++ [(l, m)], by go_num, by omega, by omega, by omega, ?_, by rw [List.length_append]; exact HW1.out, hE2⟩
                  rw [List.append_assoc]; exact HCV.out
                case measure => simp [intOf]; omega
        · have hc : pre = covL B 0 lo hi := by rw [← hcov, gCov_out (by omega), List.append_nil]
          have HC := Lib.hid hc
          clear hcov hc
          go_wp2
          go_ret2
          exact .inr ⟨HF.out, _, rfl, by rw [← HC.out]; exact HO.out, HE.out⟩
end Go.Proofs.YteoblkcbemeamaaGreat

/- gaugerref12: an array of the references. -/
namespace Go.Proofs.YteoblkcbemeamaaGreat
set_option linter.unusedVariables false
open Go.RowKit
theorem run_make_intsU {P : Program} (t e : TypeId) (i : TypeInfo) (ht : P.underlying t = some (.slice e)) (hi : P.info? e = some i) (hz : i.zero = some (.int .i64 0)) (hs : i.size = 1) (hb : i.bytes = 8)
    (n : Nat) (hn : n ≤ 1000000) (f : Nat → Int) (w : World) :
    (Instr.makeSlice t (.int .u64 (n : Int)) (.int .u64 (n : Int))).run P w = .ok (.slice (some ⟨w.heap.size, 0, none⟩) n n) (w.alloc (.cells (fillA f 0 n) e)) := by
  have h := run_make w t e i (.int .i64 0) ht hi hz .u64 .u64 n n (by omega) (by omega) (by rw [hb]; omega) (by omega)
  simp only [Int.toNat_natCast] at h
  rw [h, hs]
  congr 3
  apply Array.ext
  · rw [size_madeCells, fillA_size]; omega
  · intro j h1 h2
    rw [fillA_size] at h2
    simp [madeCells, fillA, Value.cells, Nat.mod_one]
def RXNewPost (w : World) (C : Cfg) (lv : Int) (N : Nat) (l : List Int) (e : Ending) (w' : World) : Prop :=
  ∃ a m, e = .returned (.pointer (some ⟨a, 0, none⟩)) ∧ RXAt w' a m C lv N l ∧ w.heap.size ≤ a ∧ w.heap.size ≤ m ∧ Ext w w'
set_option maxRecDepth 20000 in
set_option maxHeartbeats 4000000 in
theorem RXNew_c (C : Cfg) (lv : Int) (N : Nat) (h1 : 1 ≤ N) (h2 : N ≤ 128) (w : World) :
    Calls Tryz.prog 108 #[.agg #[.int .i64 C.bits, .int .i64 C.rows, .int .i64 C.width, .int .i64 C.mode, .int .u64 C.seed], .int .i64 lv, .int .u64 N] w (RXNewPost w C lv N (zs N)) := by
  obtain ⟨ii, hi, hz0, hz1, hz2⟩ := info_parts info_i64
  have hmk := fun (x : World) => run_make_intsU 43 2 ii Tryz.underlying43 hi hz0 hz1 hz2 N (by omega) (fun _ => 0) x
  have hm1 : ((128 : Int) < (N : Int)) = False := by simp; omega
  have hm2 : decide ((128 : Int) < (N : Int)) = false := by simp; omega
  have hm3 : (N : Int) ≤ 128 := by omega
  clear hi hz0 hz1 hz2
  obtain ⟨W, hW⟩ : ∃ W, w.alloc (.cells #[.int .i64 C.bits, .int .i64 C.rows, .int .i64 C.width, .int .i64 C.mode, .int .u64 C.seed] 24) = W := ⟨_, rfl⟩
  have hC : CfgAt W w.heap.size C := by rw [← hW]; exact CfgAt.box C _ rfl
  have hE : Ext w W := by rw [← hW]; exact Ext.alloc' _ _
  have c0 := hC.c0
  have c1 := hC.c1
  have c2 := hC.c2
  have c3 := hC.c3
  have c4 := hC.c4
  have cl := hC.lt
  have hsz := hE.size
  go_enter Tryz.func108, Tryz.ntmps108
  go_wp2_with fail
  try rw [hW]
  clear hW
  have hC0 := af_drew W
  refine pi_start (fun w' => ∃ z : After W, w' = z.w) [] (by kernel_rfl) ?_
  refine pi_t 1 rfl (by kernel_rfl) (by kernel_rfl) (fun _ _ _ _ h => h) (fun K hK => ?_)
  go_big_quiet_op
  refine hK _ ?_
  clear hK K
  refine pi_t 2 rfl (by kernel_rfl) (by kernel_rfl) (fun _ _ _ _ h => h) (fun K hK => ?_)
  go_big_quiet_op
  refine hK _ ?_
  clear hK K
  refine pi_t 3 rfl (by kernel_rfl) (by kernel_rfl) (fun _ _ _ _ h => h) (fun K hK => ?_)
  go_big_quiet_op
  refine hK _ ?_
  clear hK K
  refine pi_c 0 (by assumption) rfl (by kernel_rfl) (by kernel_rfl) (fun _ _ _ _ h => h) (fun K hK => ?_)
  go_big_quiet_op
  refine hK _ ?_
  clear hK K
  refine pi_l 4 rfl (by kernel_rfl) (fun K hK => ?_)
  go_wp2
  refine hK _ _ (fun _ h => af_step h (Ext.alloc' _ _)) ?_
  clear hK K
  refine pi_t 5 rfl (by kernel_rfl) (by kernel_rfl) (fun _ _ _ _ h => h) (fun K hK => ?_)
  go_big_quiet_op
  refine hK _ ?_
  clear hK K
  refine pi_l 6 rfl (by kernel_rfl) (fun K hK => ?_)
  go_wp2
  refine hK _ _ (fun _ h => af_step h (Ext.alloc' _ _)) ?_
  clear hK K
  refine pi_t 7 rfl (by kernel_rfl) (by kernel_rfl) (fun _ _ _ _ h => h) (fun K hK => ?_)
  go_big_quiet_op
  refine hK _ ?_
  clear hK K
  refine pi_end (by kernel_rfl) ?_
  go_wp2
  go_ret
  refine ⟨_, W.heap.size, rfl, ⟨⟨N, heap_at _ _ (size_alloc _ _).symm, Nat.le_refl _⟩, ⟨fillA (fun _ => 0) 0 N, ?_, fun k hk => ?_⟩, zs_len _, h1, h2, fun x hx => ?_⟩, ?_, hsz, ((hE.drewR).allocR _).allocR _⟩
  · show ((W.alloc _).alloc _).heap[_]? = _
    rw [heap_old _ _ (by rw [size_alloc]; exact Nat.lt_succ_self _)]
    exact heap_at _ _ rfl
  · rw [fillA_at _ _ _ _ hk, if_neg (Nat.not_lt_zero _), zs_get0]
  · simp only [zs, List.mem_replicate] at hx
    rw [hx.2]
    unfold I64; omega
  · exact Nat.le_trans hsz (Nat.le_succ _)
set_option maxRecDepth 20000 in
set_option maxHeartbeats 4000000 in
theorem RXCopy_c (a m : Nat) (C : Cfg) (lv : Int) (N : Nat) (l : List Int) (w : World) (h : RXAt w a m C lv N l) :
    Calls Tryz.prog 112 #[.pointer (some ⟨a, 0, none⟩)] w (RXNewPost w C lv N l) := by
  obtain ⟨cap, hex, hcap⟩ := h.ex
  have c0 := (cell_of hex 0).trans rfl
  have c1 := (cell_of hex 1).trans rfl
  have c2 := (cell_of hex 2).trans rfl
  have c3 := (cell_of hex 3).trans rfl
  have c4 := (cell_of hex 4).trans rfl
  have c5 := (cell_of hex 5).trans rfl
  have c6 := (cell_of hex 6).trans rfl
  have la := h.lta
  have lm := h.ltm
  have k1 := h.k1
  have k2 := h.k2
  have hlen := h.len
  have HF := Lib.hid h.fit
  have hcell : ∀ W : World, Ext w W → ∀ k, k < N → W.cell? ⟨m, 0 + k, none⟩ = some (.int .i64 (l.getD k 0)) := fun W hW k hk => by rw [(bcell hW).1 _ _ lm, Nat.zero_add]; exact h.cell hk
  have HC := Lib.hid hcell
  have HL := Lib.hid hlen
  clear hcell h hex hlen
  go_enter Tryz.func112, Tryz.ntmps112
  go_wp2_with fail
  have hC0 := af_drew w
  refine pi_start (fun w' => ∃ z : After w, w' = z.w) [] (by kernel_rfl) ?_
  refine pi_t 0 rfl (by kernel_rfl) (by kernel_rfl) (fun _ _ _ _ h => h) (fun K hK => ?_)
  go_big_quiet_op
  refine hK _ ?_
  clear hK K
  refine pi_t 1 rfl (by kernel_rfl) (by kernel_rfl) (fun _ _ _ _ h => h) (fun K hK => ?_)
  go_big_quiet_op
  refine hK _ ?_
  clear hK K
  refine pi_t 2 rfl (by kernel_rfl) (by kernel_rfl) (fun _ _ _ _ h => h) (fun K hK => ?_)
  go_big_quiet_op
  refine hK _ ?_
  clear hK K
  refine pi_t 4 rfl (by kernel_rfl) (by kernel_rfl) (fun _ _ _ _ h => h) (fun K hK => ?_)
  go_big_quiet_op
  refine hK _ ?_
  clear hK K
  refine pi_t 5 rfl (by kernel_rfl) (by kernel_rfl) (fun _ _ _ _ h => h) (fun K hK => ?_)
  go_big_quiet_op
  refine hK _ ?_
  clear hK K
  refine pi_t 6 rfl (by kernel_rfl) (by kernel_rfl) (fun _ _ _ _ h => h) (fun K hK => ?_)
  go_big_quiet_op
  refine hK _ ?_
  clear hK K
  refine pi_t 9 rfl (by kernel_rfl) (by kernel_rfl) (fun _ _ _ _ h => h) (fun K hK => ?_)
  go_big_quiet_op
  refine hK _ ?_
  clear hK K
  refine pi_t 10 rfl (by kernel_rfl) (by kernel_rfl) (fun _ _ _ _ h => h) (fun K hK => ?_)
  go_big_quiet_op
  refine hK _ ?_
  clear hK K
  refine pi_t 11 rfl (by kernel_rfl) (by kernel_rfl) (fun _ _ _ _ h => h) (fun K hK => ?_)
  go_big_quiet_op
  refine hK _ ?_
  clear hK K
  refine pi_c 3 (by assumption) rfl (by kernel_rfl) (by kernel_rfl) (fun _ _ _ _ h => h) (fun K hK => ?_)
  go_big_quiet_op
  refine hK _ ?_
  clear hK K
  refine pi_c 7 (by assumption) rfl (by kernel_rfl) (by kernel_rfl) (fun _ _ _ _ h => h) (fun K hK => ?_)
  go_big_quiet_op
  refine hK _ ?_
  clear hK K
  refine pi_c 12 (by assumption) rfl (by kernel_rfl) (by kernel_rfl) (fun _ _ _ _ h => h) (fun K hK => ?_)
  go_big_quiet_op
  refine hK _ ?_
  clear hK K
  refine pi_l 8 rfl (by kernel_rfl) (fun K hK => ?_)
  go_wp2
  refine hK _ _ (fun _ h => af_step h (Ext.alloc' _ _)) ?_
  clear hK K
  have hE1 : Ext w (w.alloc (.cells #[] 2)).drew := ((Ext.refl w).allocR _).drewR
  have hown : (w.alloc (.cells #[] 2)).drew.ownsRow w.heap.size 2 1 (.slice (some ⟨w.heap.size, 0, none⟩) 0 0) ([] : List Int).length (ints []) := own_drew (own_empty w 2)
  generalize (w.alloc (.cells #[] 2)).drew = W at *
  refine pi_l 13 rfl (by kernel_rfl) (fun K hK => ?_)
  go_wp2_with (at_builtin; refine wpList_appl W l [] _ w.heap.size 2 hown 43 rfl _ _ rfl info_i64 Tryz.underlying43 (by rfl) m 0 N cap (by rfl) HL.out.symm (HC.out W hE1) ?a1 ?a2 ?_)
  case a1 => show 0 + N ≤ _; omega
  case a2 => exact hE1.size
  intro v' w' g1 g2 g3
  have hE2 : Ext w w' := ext_grown0 hE1 g2 (fun i hi => own_blk hown hi)
  have hE2' : ∃ z : After w, w' = z.w := ⟨⟨w', hE2⟩, rfl⟩
  obtain ⟨z, zc, cur, rfl, hzc, hz, hzh, hzcur⟩ := own_row1 g1 (by show 0 < l.length; rw [HL.out]; omega)
  rw [HL.out] at hzc hzcur ⊢
  have HZ := Lib.hid (And.intro hzc (And.intro hz (And.intro hzh hzcur)))
  have hs2 := hE2.size
  clear g1 g2 g3 hown hzc hz hzh hzcur
  go_wp2
  refine hK _ _ (fun _ _ => hE2') ?_
  clear hK K
  refine pi_t 14 rfl (by kernel_rfl) (by kernel_rfl) (fun _ _ _ _ h => h) (fun K hK => ?_)
  go_big_quiet_op
  refine hK _ ?_
  clear hK K
  refine pi_l 15 rfl (by kernel_rfl) (fun K hK => ?_)
  go_wp2
  refine hK _ _ (fun _ h => af_step h (Ext.alloc' _ _)) ?_
  clear hK K
  refine pi_t 16 rfl (by kernel_rfl) (by kernel_rfl) (fun _ _ _ _ h => h) (fun K hK => ?_)
  go_big_quiet_op
  refine hK _ ?_
  clear hK K
  refine pi_end (by kernel_rfl) ?_
  go_wp2
  go_ret
  obtain ⟨q1, q2, q3, q4⟩ := HZ.out
  exact ⟨_, z, rfl, ⟨⟨zc, heap_at _ _ rfl, q1⟩, ⟨cur, (Ext.alloc' _ _).keep q3, fun k hk => q4 k hk⟩, HL.out, k1, k2, HF.out⟩, hs2, q2, hE2.allocR _⟩
theorem key_nat {key : Int} (h0 : 0 ≤ key) : ∃ k : Nat, key = k := ⟨key.toNat, by omega⟩
def RXUpdPost (w : World) (a m : Nat) (C : Cfg) (lv : Int) (N : Nat) (l : List Int) (key d : Int) (e : Ending) (w' : World) : Prop :=
  e = .returned (.int .i64 (errX C lv l key d)) ∧ ((errX C lv l key d = 0 ∧ RXAt w' a m C lv N (updX l key d) ∧ Mod (fun k => k = m) w w') ∨ (errX C lv l key d ≠ 0 ∧ Ext w w'))
set_option maxRecDepth 20000 in
set_option maxHeartbeats 4000000 in
theorem RXUpdate_c (a m : Nat) (C : Cfg) (lv : Int) (N : Nat) (l : List Int) (key d : Int) (w : World) (h : RXAt w a m C lv N l) (hkn : keys C lv = N) (hd : I64 d) (hk : U64 key) :
    Calls Tryz.prog 114 #[.pointer (some ⟨a, 0, none⟩), .int .u64 key, .int .i64 d] w (RXUpdPost w a m C lv N l key d) := by
  obtain ⟨hk0, hk1⟩ := hk
  obtain ⟨key, rfl⟩ := key_nat hk0
  obtain ⟨cap, hex, hcap⟩ := h.ex
  have c3 := (cell_of hex 3).trans rfl
  have c6 := (cell_of hex 6).trans rfl
  have la := h.lta
  have lm := h.ltm
  have k2 := h.k2
  have HH := Lib.hid h
  have HKK := Lib.hid hkn
  have HD := Lib.hid hd
  clear h hex hd
  by_cases hge : N ≤ key
  · have he : errX C lv l key d = 2 := errX_key (by omega)
    unfold RXUpdPost
    rw [he]
    have hge' : decide ((N : Int) ≤ (key : Int)) = true := by simp; omega
    clear hkn
    go_enter Tryz.func114, Tryz.ntmps114
    go_wp2
    go_ret
    exact ⟨rfl, by first | exact .inr ⟨by decide, Ext.refl _⟩ | exact Ext.refl _⟩
  · have hlt : key < N := by omega
    have cx := HH.out.cell hlt
    have fx := HH.out.frz key
    have hI := getD_i64 HH.out.fit key
    have hset := fun x (hx : I64 x) => HH.out.set hlt hx
    have HSET := Lib.hid hset
    have hne := HH.out.ne
    have HNE := Lib.hid hne
    have he := fun hn => errX_sum (C := C) (lv := lv) (l := l) (key := (key : Int)) (d := d) (by omega) hn
    have he2 := fun hm hn => errX_neg (C := C) (lv := lv) (l := l) (key := (key : Int)) (d := d) (by omega) hm hn
    have hu : updX l (key : Int) d = l.set key (l.getD key 0 + d) := by unfold updX; rw [Int.toNat_natCast]
    rw [Int.toNat_natCast] at he
    unfold RXUpdPost
    rw [hu]
    have HE := Lib.hid he
    have HE2 := Lib.hid he2
    have HI := Lib.hid hI
    generalize l.getD key 0 = x at *
    generalize errX C lv l key d = er at *
    have HLT := Lib.hid hlt
    have hlt3 : (key : Int) < (N : Int) := by omega
    have hlt4 : ¬ ((N : Int) ≤ (key : Int)) := by omega
    clear hge hu he he2 hset hne hI hkn hlt
    by_cases hmd : C.mode = 2 ∧ d < 0
    · obtain ⟨hm, hdn⟩ := hmd
      rw [HE2.out hm hdn]
      rw [hm] at c3
      clear hm
      go_enter Tryz.func114, Tryz.ntmps114
      go_wp2
      go_ret
      exact ⟨rfl, by first | exact .inr ⟨by decide, Ext.refl _⟩ | exact Ext.refl _⟩
    · have herr := HE.out hmd
      rw [herr]
      clear herr
      have hA : ∀ w', Calls Tryz.prog 151 #[.int .i64 x, .int .i64 d] w' fun e w'' => e = .returned (.tuple #[.int .i64 (fitN (x + d)), .bool (fitB (x + d))]) ∧ Ext w' w'' := fun w' => LAdd_c x d HI.out HD.out w'
      have HA := Lib.hid hA
      clear hA
      have fin : ∀ w1, Ext w w1 → w1.cell? ⟨a, 6, none⟩ = some (.slice (some ⟨m, 0, none⟩) N cap) ∧ w1.frozen? ⟨m, key, none⟩ = false ∧ (∃ v, w1.cell? ⟨m, key, none⟩ = some v) ∧ a < w1.heap.size ∧ m < w1.heap.size := fun w1 hx =>
        ⟨((bcell hx).1 _ _ la).trans c6, ((bcell hx).2 _ _ lm).trans fx, ⟨_, ((bcell hx).1 _ _ lm).trans cx⟩, Nat.lt_of_lt_of_le la hx.size, Nat.lt_of_lt_of_le lm hx.size⟩
      have HFIN := Lib.hid fin
      clear fin
      by_cases hfit : I64 (x + d)
      · have hfb := fitB_yes hfit
        have hfn := fitN_yes hfit
        rw [hfb, hfn] at HA
        rw [hfb]
        clear hfb hfn
        have hmode : (C.mode = 2) ∨ (C.mode ≠ 2) := by omega
        by_cases hm : C.mode = 2
        · have hdn : decide (d < 0) = false := by have := fun h => hmd ⟨hm, h⟩; simp; omega
          rw [hm] at c3
          clear hm hmd hmode
          go_enter Tryz.func114, Tryz.ntmps114
          go_wp2_with fail
          refine Calls.mono (HA.out _) ?_
          rintro e w1 ⟨rfl, hx1⟩
          obtain ⟨d6, fk, ⟨v0, ck⟩, l1, l2⟩ := HFIN.out w1 hx1
          clear c3 c6 cx fx la lm
          go_wp2
          go_ret
          have hX1 := HH.out.ext hx1
          exact ⟨rfl, by first | exact .inl ⟨rfl, hX1.set HLT.out hfit, (hx1.mod _).trans (mod_set _ _ _ _)⟩ | exact ⟨hX1.set HLT.out hfit, (hx1.mod _).trans (mod_set _ _ _ _)⟩⟩
        · have hmb : (C.mode == 2) = false := by simpa using hm
          clear hm hmd hmode
          go_enter Tryz.func114, Tryz.ntmps114
          go_wp2_with fail
          refine Calls.mono (HA.out _) ?_
          rintro e w1 ⟨rfl, hx1⟩
          obtain ⟨d6, fk, ⟨v0, ck⟩, l1, l2⟩ := HFIN.out w1 hx1
          clear c3 c6 cx fx la lm
          go_wp2
          go_ret
          have hX1 := HH.out.ext hx1
          exact ⟨rfl, by first | exact .inl ⟨rfl, hX1.set HLT.out hfit, (hx1.mod _).trans (mod_set _ _ _ _)⟩ | exact ⟨hX1.set HLT.out hfit, (hx1.mod _).trans (mod_set _ _ _ _)⟩⟩
      · have hfb := fitB_no hfit
        rw [hfb] at HA
        rw [hfb]
        clear hfb
        by_cases hm : C.mode = 2
        · have hdn : decide (d < 0) = false := by have := fun h => hmd ⟨hm, h⟩; simp; omega
          rw [hm] at c3
          clear hm hmd
          go_enter Tryz.func114, Tryz.ntmps114
          go_wp2_with fail
          refine Calls.mono (HA.out _) ?_
          rintro e w1 ⟨rfl, hx1⟩
          go_wp2
          go_ret
          exact ⟨rfl, by first | exact .inr ⟨by decide, hx1⟩ | exact hx1⟩
        · have hmb : (C.mode == 2) = false := by simpa using hm
          clear hm hmd
          go_enter Tryz.func114, Tryz.ntmps114
          go_wp2_with fail
          refine Calls.mono (HA.out _) ?_
          rintro e w1 ⟨rfl, hx1⟩
          go_wp2
          go_ret
          exact ⟨rfl, by first | exact .inr ⟨by decide, hx1⟩ | exact hx1⟩
def ptX (l : List Int) (N : Nat) (key : Int) : Value := if (N : Int) ≤ key then .tuple #[.int .i64 0, .int .i64 2] else .tuple #[.int .i64 (l.getD key.toNat 0), .int .i64 0]
set_option maxRecDepth 20000 in
set_option maxHeartbeats 2000000 in
theorem RXPoint_c (a m : Nat) (C : Cfg) (lv : Int) (N : Nat) (l : List Int) (key : Int) (w : World) (h : RXAt w a m C lv N l) (hk : U64 key) :
    Calls Tryz.prog 110 #[.pointer (some ⟨a, 0, none⟩), .int .u64 key] w fun e w' => e = .returned (ptX l N key) ∧ w = w' := by
  obtain ⟨hk0, hk1⟩ := hk
  obtain ⟨key, rfl⟩ := key_nat hk0
  obtain ⟨cap, hex, hcap⟩ := h.ex
  have c6 := (cell_of hex 6).trans rfl
  have la := h.lta
  have lm := h.ltm
  have k2 := h.k2
  unfold ptX
  rw [Int.toNat_natCast]
  by_cases hge : N ≤ key
  · rw [if_pos (by omega)]
    have hge' : decide ((N : Int) ≤ (key : Int)) = true := by simp; omega
    clear h hex
    go_enter Tryz.func110, Tryz.ntmps110
    go_wp2
    go_ret2
    exact ⟨rfl, rfl⟩
  · have hlt : key < N := by omega
    rw [if_neg (by omega)]
    have cx := h.cell hlt
    have hlt3 : (key : Int) < (N : Int) := by omega
    have hlt4 : ¬ ((N : Int) ≤ (key : Int)) := by omega
    generalize l.getD key 0 = x at *
    clear h hex hge hlt
    go_enter Tryz.func110, Tryz.ntmps110
    go_wp2
    go_ret2
    exact ⟨rfl, rfl⟩
end Go.Proofs.YteoblkcbemeamaaGreat

/- gaugerref13: New, Copy, Update, Point, Cells. -/
namespace Go.Proofs.YteoblkcbemeamaaGreat
set_option linter.unusedVariables false
open Go.RowKit
def RLNewPost (w : World) (C : Cfg) (lv : Int) (l : List Int) (e : Ending) (w' : World) : Prop :=
  ∃ L : RLev, e = .returned (.pointer (some ⟨L.p, 0, none⟩)) ∧ RLvAt w' L C lv l ∧ (∀ k, L.foot C lv k → w.heap.size ≤ k) ∧ Ext w w'
theorem RLNew_x {w w1 w' : World} {C : Cfg} {lv : Int} {a m p : Nat} {l : List Int} (hok : C.Ok) (h0 : 0 ≤ lv) (h1 : lv ≤ C.bits) (hx : isX C lv = true) (hA : RXAt w1 a m C lv (kN C lv) l) (ha : w.heap.size ≤ a) (hm : w.heap.size ≤ m) (hp : w.heap.size ≤ p) (hE : Ext w w') (hE1 : Ext w1 w')
    (hb : w'.heap[p]? = some (.cells #[.pointer (some ⟨a, 0, none⟩), .pointer none] 136 (0, 0))) : RLNewPost w C lv l (.returned (.pointer (some ⟨p, 0, none⟩))) w' := by
  refine ⟨⟨p, a, ⟨0, m, fun _ => 0, fun _ => 0⟩⟩, rfl, ⟨hok, h0, h1, .inl ⟨hx, hb, hA.ext hE1⟩⟩, ?_, hE⟩
  rintro k (rfl | ⟨_, (rfl | rfl)⟩ | ⟨hy, _⟩)
  · exact hp
  · exact ha
  · exact hm
  · rw [hx] at hy; cases hy
theorem RLNew_s {w w1 w' : World} {C : Cfg} {lv : Int} {a p : Nat} {G : Gr} {l : List Int} (hok : C.Ok) (h0 : 0 ≤ lv) (h1 : lv ≤ C.bits) (hx : isX C lv = false) (hA : RSAt w1 a G C lv (rN C) (wN C) l) (ha : ∀ k, rsF a G (rN C) k → w.heap.size ≤ k) (hp : w.heap.size ≤ p) (hE : Ext w w') (hE1 : Ext w1 w')
    (hb : w'.heap[p]? = some (.cells #[.pointer none, .pointer (some ⟨a, 0, none⟩)] 136 (0, 0))) : RLNewPost w C lv l (.returned (.pointer (some ⟨p, 0, none⟩))) w' := by
  refine ⟨⟨p, a, G⟩, rfl, ⟨hok, h0, h1, .inr ⟨hx, hb, hA.ext hE1⟩⟩, ?_, hE⟩
  rintro k (rfl | ⟨hy, _⟩ | ⟨_, hk⟩)
  · exact hp
  · rw [hx] at hy; cases hy
  · exact ha k hk
set_option maxRecDepth 20000 in
set_option maxHeartbeats 4000000 in
theorem RLNew_c (C : Cfg) (hok : C.Ok) (lv : Int) (h0 : 0 ≤ lv) (h1 : lv ≤ C.bits) (w : World) :
    Calls Tryz.prog 47 #[.agg #[.int .i64 C.bits, .int .i64 C.rows, .int .i64 C.width, .int .i64 C.mode, .int .u64 C.seed], .int .i64 lv] w (RLNewPost w C lv (zs (lvN C lv))) := by
  have hEX := fun W' => ExactR_c C hok lv h0 h1 W'
  obtain ⟨W0, hW0⟩ : ∃ W0, w.alloc (.cells #[.int .i64 C.bits, .int .i64 C.rows, .int .i64 C.width, .int .i64 C.mode, .int .u64 C.seed] 24) = W0 := ⟨_, rfl⟩
  have hCb : W0.heap[w.heap.size]? = some (.cells #[.int .i64 C.bits, .int .i64 C.rows, .int .i64 C.width, .int .i64 C.mode, .int .u64 C.seed] 24 (0, 0)) := by rw [← hW0]; exact heap_at _ _ rfl
  have hE : Ext w W0 := by rw [← hW0]; exact Ext.alloc' _ _
  have hC := CfgAt.of hCb
  have c0 := hC.c0
  have c1 := hC.c1
  have c2 := hC.c2
  have c3 := hC.c3
  have c4 := hC.c4
  have cl := hC.lt
  cases hx : isX C lv with
  | true =>
    have hlN : lvN C lv = kN C lv := by unfold lvN; rw [hx]; rfl
    rw [hx] at hEX
    rw [hlN]
    have hkn := kN_eq hok h0
    have hkb := keys_bd C hok lv h0
    have hkx : keys C lv ≤ 128 := by
      have h3 := hok.w2
      unfold isX at hx
      have := of_decide_eq_true hx
      omega
    have HX := Lib.hid hx
    have HEX := Lib.hid hEX
    have HCB := Lib.hid hCb
    have HKN := Lib.hid hkn
    clear hx hEX hC hlN hCb hkn
    go_enter Tryz.func47, Tryz.ntmps47
    go_wp2_with fail
    try rw [hW0]
    clear hW0
    refine Calls.mono (HEX.out _) ?_
    rintro e w1 ⟨rfl, hx1⟩
    have hC1 := CfgAt.of (hx1.keep HCB.out)
    have hE1 := hE.trans' hx1
    clear c0 c1 c2 c3 c4 cl hx1
    have c0 := hC1.c0
    have c1 := hC1.c1
    have c2 := hC1.c2
    have c3 := hC1.c3
    have c4 := hC1.c4
    have cl := hC1.lt
    clear hC1
    go_wp2_with fail
    have hC0 := af_drew w1
    refine pi_start (fun w' => ∃ z : After w1, w' = z.w) [] (by kernel_rfl) ?_
    refine pi_t 1 rfl (by kernel_rfl) (by kernel_rfl) (fun _ _ _ _ h => h) (fun K hK => ?_)
    go_big_quiet_op
    refine hK _ ?_
    clear hK K
    refine pi_t 3 rfl (by kernel_rfl) (by kernel_rfl) (fun _ _ _ _ h => h) (fun K hK => ?_)
    go_big_quiet_op
    refine hK _ ?_
    clear hK K
    refine pi_c 0 (by assumption) rfl (by kernel_rfl) (by kernel_rfl) (fun _ _ _ _ h => h) (fun K hK => ?_)
    go_big_quiet_op
    refine hK _ ?_
    clear hK K
    refine pi_c 2 (by assumption) rfl (by kernel_rfl) (by kernel_rfl) (fun _ _ _ _ h => h) (fun K hK => ?_)
    go_big_quiet_op
    refine hK _ ?_
    clear hK K
    refine pi_l 4 rfl (by kernel_rfl) (fun K hK => ?_)
    go_wp2_with (go_at_call 87; refine (KeysR_c C hok lv h0 h1 _).mono ?_; rintro e w2 ⟨rfl, hx2⟩)
    refine hK _ _ (fun _ h => af_step h hx2) ?_
    clear hK K
    have hE2 : Ext w1 w2 := Ext.trans' (Below.drew (Ext.refl w1)) hx2
    rw [HKN.out]
    refine pi_l 5 rfl (by kernel_rfl) (fun K hK => ?_)
    go_wp2_with (go_at_call 108; refine Calls.mono (RXNew_c C lv (kN C lv) (by have := HKN.out; omega) (by have := HKN.out; omega) _) ?_; rintro e w3 ⟨a, m, rfl, hA, ha, hm, hx3⟩)
    refine hK _ _ (fun _ h => af_step h hx3) ?_
    clear hK K
    have hE3 : Ext w1 w3 := hE2.trans' hx3
    have HA := Lib.hid hA
    have hz := hE1.size
    have hz2 := hE2.size
    clear hA
    refine pi_t 6 rfl (by kernel_rfl) (by kernel_rfl) (fun _ _ _ _ h => h) (fun K hK => ?_)
    go_big_quiet_op
    refine hK _ ?_
    clear hK K
    refine pi_l 7 rfl (by kernel_rfl) (fun K hK => ?_)
    go_wp2
    refine hK _ _ (fun _ h => af_step h (Ext.alloc' _ _)) ?_
    clear hK K
    refine pi_t 8 rfl (by kernel_rfl) (by kernel_rfl) (fun _ _ _ _ h => h) (fun K hK => ?_)
    go_big_quiet_op
    refine hK _ ?_
    clear hK K
    refine pi_end (by kernel_rfl) ?_
    have hz3 := hE3.size
    go_wp2
    go_ret
    exact RLNew_x hok h0 h1 HX.out HA.out (by omega) (by omega) (by omega) ((hE1.trans' hE3).allocR _) (Ext.alloc' _ _) (heap_at _ _ rfl)
  | false =>
    have hlN : lvN C lv = rN C * wN C := by unfold lvN; rw [hx]; rfl
    rw [hx] at hEX
    rw [hlN]
    have HX := Lib.hid hx
    have HEX := Lib.hid hEX
    have HCB := Lib.hid hCb
    have HS := Lib.hid (fun W' => RSNew_c C hok lv h0 h1 (rN C) (wN C) (rN_eq hok) (wN_eq hok) W')
    clear hx hEX hC hlN hCb
    go_enter Tryz.func47, Tryz.ntmps47
    go_wp2_with fail
    try rw [hW0]
    clear hW0
    refine Calls.mono (HEX.out _) ?_
    rintro e w1 ⟨rfl, hx1⟩
    have hC1 := CfgAt.of (hx1.keep HCB.out)
    have hE1 := hE.trans' hx1
    clear c0 c1 c2 c3 c4 cl hx1
    have c0 := hC1.c0
    have c1 := hC1.c1
    have c2 := hC1.c2
    have c3 := hC1.c3
    have c4 := hC1.c4
    have cl := hC1.lt
    clear hC1
    go_wp2_with fail
    refine Calls.mono (HS.out _) ?_
    rintro e w2 ⟨a, G, rfl, hA, hF, hx2⟩
    have HA := Lib.hid hA
    have HF := Lib.hid (show ∀ k, rsF a G (rN C) k → w1.heap.size ≤ k from hF)
    have hE2 := hE1.trans' hx2
    have hz := hE1.size
    have hz2 := hE2.size
    clear hA hF
    go_wp2
    go_ret
    exact RLNew_s hok h0 h1 HX.out HA.out (fun k hk => Nat.le_trans hz (HF.out k hk)) hz2 (hE2.allocR _) (Ext.alloc' _ _) (heap_at _ _ rfl)
set_option maxRecDepth 20000 in
set_option maxHeartbeats 4000000 in
theorem RLCopy_c (L : RLev) (C : Cfg) (lv : Int) (l : List Int) (w : World) (h : RLvAt w L C lv l) :
    Calls Tryz.prog 49 #[.pointer (some ⟨L.p, 0, none⟩)] w (RLNewPost w C lv l) := by
  have hok := h.1
  have h0 := h.2.1
  have h1 := h.2.2.1
  cases hx : isX C lv with
  | true =>
    obtain ⟨hb, hA⟩ := h.x hx
    have p0 := (cell_of hb 0).trans rfl
    have pl := lt_of hb
    have HA := Lib.hid hA
    have HX := Lib.hid hx
    clear hx hb hA h
    go_enter Tryz.func49, Tryz.ntmps49
    go_wp2_with fail
    refine Calls.mono (RXCopy_c _ _ C lv _ l _ HA.out) ?_
    rintro e w1 ⟨a, m, rfl, hA1, ha, hm, hx1⟩
    have HA1 := Lib.hid hA1
    have hz := hx1.size
    clear hA1
    go_wp2
    go_ret
    exact RLNew_x hok h0 h1 HX.out HA1.out ha hm hz (hx1.allocR _) (Ext.alloc' _ _) (heap_at _ _ rfl)
  | false =>
    obtain ⟨hb, hA⟩ := h.sk hx
    have p0 := (cell_of hb 0).trans rfl
    have p1 := (cell_of hb 1).trans rfl
    have pl := lt_of hb
    have HA := Lib.hid hA
    have HX := Lib.hid hx
    clear hx hb hA h
    go_enter Tryz.func49, Tryz.ntmps49
    go_wp2_with fail
    refine Calls.mono (RSCopy_c _ _ C lv _ _ l _ HA.out) ?_
    rintro e w1 ⟨a, G, rfl, hA1, hF, hx1⟩
    have HA1 := Lib.hid hA1
    have HF := Lib.hid (show ∀ k, rsF a G (rN C) k → w.heap.size ≤ k from hF)
    have hz := hx1.size
    clear hA1 hF
    go_wp2
    go_ret
    exact RLNew_s hok h0 h1 HX.out HA1.out HF.out hz (hx1.allocR _) (Ext.alloc' _ _) (heap_at _ _ rfl)
def RLUpdPost (w : World) (L : RLev) (C : Cfg) (lv : Int) (l : List Int) (key d : Int) (e : Ending) (w' : World) : Prop :=
  e = .returned (.int .i64 (lvE C lv l key d)) ∧ ((lvE C lv l key d = 0 ∧ RLvAt w' L C lv (lvU C lv l key d) ∧ Mod (L.foot C lv) w w') ∨ (lvE C lv l key d ≠ 0 ∧ Ext w w'))
set_option maxRecDepth 20000 in
set_option maxHeartbeats 4000000 in
theorem RLUpdate_c (L : RLev) (C : Cfg) (lv : Int) (l : List Int) (key d : Int) (w : World) (h : RLvAt w L C lv l) (hk : U64 key) (hd : I64 d) :
    Calls Tryz.prog 50 #[.pointer (some ⟨L.p, 0, none⟩), .int .u64 key, .int .i64 d] w (RLUpdPost w L C lv l key d) := by
  have hok := h.1
  have h0 := h.2.1
  have h1 := h.2.2.1
  cases hx : isX C lv with
  | true =>
    obtain ⟨hb, hA⟩ := h.x hx
    have p0 := (cell_of hb 0).trans rfl
    have pl := lt_of hb
    have HU := Lib.hid (RXUpdate_c _ _ C lv _ l key d w hA (kN_eq hok h0) hd hk)
    have HB := Lib.hid hb
    have HA := Lib.hid hA
    have HX := Lib.hid hx
    unfold RLUpdPost
    rw [lvE_x hx, lvU_x hx]
    clear hx hb hA h
    go_enter Tryz.func50, Tryz.ntmps50
    go_wp2_with fail
    refine Calls.mono HU.out ?_
    rintro e w1 ⟨rfl, hres⟩
    have HRES := Lib.hid hres
    clear hres HU
    go_wp2
    go_ret
    rcases HRES.out with ⟨e0, hA1, hM⟩ | ⟨e0, hE⟩
    · refine ⟨rfl, .inl ⟨e0, ⟨hok, h0, h1, .inl ⟨HX.out, ?_, hA1⟩⟩, hM.wider (fun k hk => .inr (.inl ⟨HX.out, .inr hk⟩))⟩⟩
      exact hM.keep HB.out (fun e => by obtain ⟨cu, q1, _⟩ := HA.out.cells; exact blk_ne HB.out q1 (by decide) e)
    · exact ⟨rfl, .inr ⟨e0, hE⟩⟩
  | false =>
    obtain ⟨hb, hA⟩ := h.sk hx
    have p0 := (cell_of hb 0).trans rfl
    have p1 := (cell_of hb 1).trans rfl
    have pl := lt_of hb
    have HU := Lib.hid (RSUpdate_c _ _ C lv _ _ l key d w hA hk hd)
    have HB := Lib.hid hb
    have HA := Lib.hid hA
    have HX := Lib.hid hx
    unfold RLUpdPost
    rw [lvE_s hx, lvU_s hx]
    clear hx hb hA h
    go_enter Tryz.func50, Tryz.ntmps50
    go_wp2_with fail
    refine Calls.mono HU.out ?_
    rintro e w1 ⟨rfl, hres⟩
    have HRES := Lib.hid hres
    clear hres HU
    go_wp2
    go_ret
    rcases HRES.out with ⟨e0, hA1, hM⟩ | ⟨e0, hE⟩
    · refine ⟨rfl, .inl ⟨e0, ⟨hok, h0, h1, .inr ⟨HX.out, ?_, hA1⟩⟩, hM.wider (fun k hk => .inr (.inr ⟨HX.out, .inr hk⟩))⟩⟩
      refine hM.keep HB.out (fun e => ?_)
      rcases e with e | e | ⟨r, hr, e⟩
      · obtain ⟨cp, q1, _⟩ := HA.out.g.ex; exact blk_ne HB.out q1 (by decide) e
      · obtain ⟨cp, q1, _⟩ := HA.out.g.row; exact blk_ne HB.out q1 (by decide) e
      · obtain ⟨cp, q1, _⟩ := HA.out.g.cells r hr; exact blk_ne HB.out q1 (by decide) e
    · exact ⟨rfl, .inr ⟨e0, hE⟩⟩
/-- What Point tells of a key of any kind, of a level. -/
def ptA (C : Cfg) (lv : Int) (l : List Int) (key x r : Int) : Prop :=
  (keys C lv ≤ key ∧ x = 0 ∧ r = 2) ∨ (key < keys C lv ∧ lvPt C lv l key x ∧ r = 0)
theorem ptA_unique {C : Cfg} {lv : Int} {l : List Int} {key x r y t : Int} (h : ptA C lv l key x r) (h2 : ptA C lv l key y t) : x = y ∧ r = t := by
  rcases h with ⟨a, rfl, rfl⟩ | ⟨a, b, rfl⟩ <;> rcases h2 with ⟨a2, rfl, rfl⟩ | ⟨a2, b2, rfl⟩
  · exact ⟨rfl, rfl⟩
  · omega
  · omega
  · exact ⟨lvPt_unique b b2, rfl⟩
theorem kth_in {l : List Int} {k : Nat} {x : Int} (h : IsKth l k x) : x ∈ l := by
  obtain ⟨h1, h2⟩ := h
  have : 0 < sameN x l := by omega
  unfold sameN at this
  obtain ⟨y, hy⟩ := List.exists_mem_of_length_pos this
  simp only [List.mem_filter] at hy
  obtain ⟨hy1, hy2⟩ := hy
  have : y = x := by simpa using hy2
  rw [← this]; exact hy1
theorem ptA_I {C : Cfg} {lv : Int} {l : List Int} {key x r : Int} (h : ptA C lv l key x r) (hfit : ∀ y ∈ l, I64 y) : I64 x := by
  rcases h with ⟨_, rfl, _⟩ | ⟨_, (⟨_, rfl⟩ | ⟨_, hk⟩), _⟩
  · unfold I64; omega
  · exact getD_i64 hfit _
  · have hm := kth_in hk
    unfold readL at hm
    rw [List.mem_map] at hm
    obtain ⟨j, _, rfl⟩ := hm
    exact getD_i64 hfit _
set_option maxRecDepth 20000 in
set_option maxHeartbeats 4000000 in
theorem RLPoint_c (L : RLev) (C : Cfg) (lv : Int) (l : List Int) (key : Int) (w : World) (h : RLvAt w L C lv l) (hk : U64 key) :
    Calls Tryz.prog 48 #[.pointer (some ⟨L.p, 0, none⟩), .int .u64 key] w fun e w' => ∃ x r, e = .returned (.tuple #[.int .i64 x, .int .i64 r]) ∧ ptA C lv l key x r ∧ Ext w w' := by
  have hok := h.1
  have h0 := h.2.1
  have h1 := h.2.2.1
  cases hx : isX C lv with
  | true =>
    obtain ⟨hb, hA⟩ := h.x hx
    have p0 := (cell_of hb 0).trans rfl
    have pl := lt_of hb
    have hkn := kN_eq hok h0
    have hU : ∃ x r, Calls Tryz.prog 110 #[.pointer (some ⟨L.a, 0, none⟩), .int .u64 key] w (fun e w' => e = .returned (.tuple #[.int .i64 x, .int .i64 r]) ∧ w = w') ∧ ptA C lv l key x r := by
      have h2 := RXPoint_c _ _ C lv _ l key w hA hk
      unfold ptX at h2
      by_cases hge : ((kN C lv : Nat) : Int) ≤ key
      · rw [if_pos hge] at h2
        exact ⟨0, 2, h2, .inl ⟨by omega, rfl, rfl⟩⟩
      · rw [if_neg hge] at h2
        exact ⟨_, 0, h2, .inr ⟨by omega, .inl ⟨hx, rfl⟩, rfl⟩⟩
    obtain ⟨x, r, hU, hp⟩ := hU
    have HU := Lib.hid hU
    have HP := Lib.hid hp
    clear hx hb hA h hU hp hkn
    go_enter Tryz.func48, Tryz.ntmps48
    go_wp2_with fail
    refine Calls.mono HU.out ?_
    rintro e w1 ⟨rfl, rfl⟩
    go_wp2
    go_ret2
    exact ⟨x, r, rfl, HP.out, Ext.refl _⟩
  | false =>
    obtain ⟨hb, hA⟩ := h.sk hx
    have p0 := (cell_of hb 0).trans rfl
    have p1 := (cell_of hb 1).trans rfl
    have pl := lt_of hb
    have HU := Lib.hid (RSPoint_c _ _ C lv _ _ l key w hA hk)
    have HX := Lib.hid hx
    clear hx hb hA h
    go_enter Tryz.func48, Tryz.ntmps48
    go_wp2_with fail
    refine Calls.mono HU.out ?_
    rintro e w1 ⟨x, r, rfl, hp, hx1⟩
    have HP := Lib.hid hp
    clear hp HU
    go_wp2
    go_ret2
    refine ⟨x, r, rfl, ?_, hx1⟩
    rcases HP.out with ⟨a, b, c⟩ | ⟨a, b, c⟩
    · exact .inl ⟨a, b, c⟩
    · exact .inr ⟨a, .inr ⟨HX.out, b⟩, c⟩
set_option maxRecDepth 20000 in
set_option maxHeartbeats 4000000 in
theorem RLCells_c (L : RLev) (C : Cfg) (lv : Int) (l : List Int) (w : World) (h : RLvAt w L C lv l) :
    Calls Tryz.prog 24 #[.pointer (some ⟨L.p, 0, none⟩)] w fun e w' => ∃ v, e = .returned v ∧ w'.ownsRow w.heap.size 2 1 v l.length (ints l) ∧ Ext w w' := by
  cases hx : isX C lv with
  | true =>
    obtain ⟨hb, hA⟩ := h.x hx
    have p0 := (cell_of hb 0).trans rfl
    have pl := lt_of hb
    obtain ⟨cap, hex, hcap⟩ := hA.ex
    have a6 := (cell_of hex 6).trans rfl
    have al := lt_of hex
    have lm := hA.ltm
    have k2 := hA.k2
    have hcell : ∀ W : World, Ext w W → ∀ k, k < kN C lv → W.cell? ⟨L.G.m, 0 + k, none⟩ = some (.int .i64 (l.getD k 0)) := fun W hW k hk => by rw [(bcell hW).1 _ _ lm, Nat.zero_add]; exact hA.cell hk
    have HC := Lib.hid hcell
    have HL := Lib.hid hA.len
    clear hx hb hA h hcell hex
    go_enter Tryz.func24, Tryz.ntmps24
    have hE1 : Ext w (w.alloc (.cells #[] 2)) := Ext.alloc' _ _
    have hown : (w.alloc (.cells #[] 2)).ownsRow w.heap.size 2 1 (.slice (some ⟨w.heap.size, 0, none⟩) 0 0) ([] : List Int).length (ints []) := own_empty w 2
    go_wp2_with (at_builtin; refine wpList_appl (w.alloc (.cells #[] 2)) l [] _ w.heap.size 2 hown 43 rfl _ _ rfl info_i64 Tryz.underlying43 (by rfl) L.G.m 0 (kN C lv) cap (by rfl) HL.out.symm (HC.out _ hE1) ?a1 ?a2 ?_)
    case a1 => show 0 + kN C lv ≤ _; omega
    case a2 => exact hE1.size
    intro v' w' g1 g2 g3
    have hE2 : Ext w w' := ext_grown0 hE1 g2 (fun i hi => own_blk hown hi)
    have G1 := Lib.hid g1
    obtain ⟨pv, cv, rfl⟩ := own_sl g1
    clear g1 g2 g3 hown
    go_wp2
    go_ret
    exact ⟨_, rfl, G1.out, hE2⟩
  | false =>
    obtain ⟨hb, hA⟩ := h.sk hx
    have p0 := (cell_of hb 0).trans rfl
    have p1 := (cell_of hb 1).trans rfl
    have pl := lt_of hb
    have a6 := (cell_of hA.ex 6).trans rfl
    have al := hA.lts
    have HU := Lib.hid (RGCells_c _ _ _ l w hA.g)
    clear hx hb hA h
    go_enter Tryz.func24, Tryz.ntmps24
    go_wp2_with fail
    refine Calls.mono HU.out ?_
    rintro e w1 ⟨v, rfl, ho, hx1⟩
    have HO := Lib.hid ho
    obtain ⟨pv, cv, rfl⟩ := own_sl ho
    clear ho HU
    go_wp2
    go_ret
    exact ⟨_, rfl, HO.out, hx1⟩
end Go.Proofs.YteoblkcbemeamaaGreat

/- gaugerref15: New, Copy. -/
namespace Go.Proofs.YteoblkcbemeamaaGreat
set_option linter.unusedVariables false
open Go.RowKit
theorem info_lp : ∃ i z, Tryz.prog.info? 45 = some i ∧ i.zero = some z ∧ i.size = 1 ∧ i.bytes = 8 ∧ z.cells.size = 1 := by
  have h : (Tryz.prog.info? 45).map (fun i => (i.zero, i.size, i.bytes)) = some (some (.pointer none), 1, 8) := by kernel_rfl
  match hi : Tryz.prog.info? 45, h with
  | some i, h =>
    simp only [Option.map_some, Option.some.injEq, Prod.mk.injEq] at h
    exact ⟨i, .pointer none, rfl, h.1, h.2.1, h.2.2, rfl⟩
def rp (L : Nat → RLev) (k : Nat) : List Value := (List.range k).map fun n => Value.pointer (some ⟨(L n).p, 0, none⟩)
theorem rp_len (L : Nat → RLev) (k : Nat) : (rp L k).length = k := by simp [rp]
theorem rp_succ (L : Nat → RLev) (k : Nat) : rp L (k + 1) = rp L k ++ [Value.pointer (some ⟨(L k).p, 0, none⟩)] := by unfold rp; rw [List.range_succ, List.map_append]; rfl
theorem rp_cong {L L' : Nat → RLev} {k : Nat} (h : ∀ n, n < k → L n = L' n) : rp L k = rp L' k := by
  unfold rp
  apply List.map_congr_left
  intro n hn
  rw [List.mem_range] at hn
  rw [h n hn]
theorem rp_get (L : Nat → RLev) {k n : Nat} (h : n < k) : (rp L k)[n]? = some (Value.pointer (some ⟨(L n).p, 0, none⟩)) := by unfold rp; rw [List.getElem?_map, List.getElem?_range h]; rfl
/-- A level's blocks are no row of levels, nor a stack. -/
theorem RLvAt.ty {w : World} {L : RLev} {C : Cfg} {lv : Int} {l : List Int} (h : RLvAt w L C lv l) {k : Nat} (hk : L.foot C lv k) {cur : Array Value} {T : TypeId} {f : Nat × Nat} (hb : w.heap[k]? = some (.cells cur T f)) : T ≠ 45 ∧ T ≠ 48 := by
  have key : ∀ (c2 : Array Value) (T2 : TypeId) (f2 : Nat × Nat), w.heap[k]? = some (.cells c2 T2 f2) → T2 ≠ 45 → T2 ≠ 48 → T ≠ 45 ∧ T ≠ 48 := fun c2 T2 f2 h2 n1 n2 => by
    rw [hb] at h2
    injection h2 with h2
    injection h2 with _ h2 _
    rw [h2]; exact ⟨n1, n2⟩
  rcases hk with rfl | ⟨hx, hk⟩ | ⟨hx, hk⟩
  · obtain ⟨_, _, _, ⟨_, h1, _⟩ | ⟨_, h1, _⟩⟩ := h <;> exact key _ _ _ h1 (by decide) (by decide)
  · obtain ⟨_, h2⟩ := h.x hx
    rcases hk with rfl | rfl
    · obtain ⟨cap, h3, _⟩ := h2.ex; exact key _ _ _ h3 (by decide) (by decide)
    · obtain ⟨cu, h3, _⟩ := h2.cells; exact key _ _ _ h3 (by decide) (by decide)
  · obtain ⟨_, h2⟩ := h.sk hx
    rcases hk with rfl | (rfl | rfl | ⟨r, hr, rfl⟩)
    · exact key _ _ _ h2.ex (by decide) (by decide)
    · obtain ⟨cap, h3, _⟩ := h2.g.ex; exact key _ _ _ h3 (by decide) (by decide)
    · obtain ⟨cap, h3, _⟩ := h2.g.row; exact key _ _ _ h3 (by decide) (by decide)
    · obtain ⟨cap, h3, _⟩ := h2.g.cells r hr; exact key _ _ _ h3 (by decide) (by decide)
/-- Some levels that have been made. -/
structure RMade (w : World) (B0 : Nat) (C : Cfg) (k : Nat) (L : Nat → RLev) (ls : Nat → List Int) (v : Value) : Prop where
  row : w.ownsRow B0 45 1 v (rp L k).length (rp L k)
  lev : ∀ n, n < k → RLvAt w (L n) C n (ls n)
  new : ∀ n, n < k → ∀ j, (L n).foot C n j → B0 ≤ j
  sep : ∀ m n, m < k → n < k → m ≠ n → Dj ((L m).foot C m) ((L n).foot C n)
theorem RMade.zero (w : World) (B0 : Nat) (C : Cfg) (L : Nat → RLev) (ls : Nat → List Int) : RMade w B0 C 0 L ls (.slice none 0 0) :=
  ⟨⟨rfl, .inl ⟨rfl, rfl⟩⟩, by intros; omega, by intros; omega, by intros; omega⟩
theorem RMade.ext {w w' : World} {B0 k : Nat} {C : Cfg} {L : Nat → RLev} {ls : Nat → List Int} {v : Value} (h : RMade w B0 C k L ls v) (he : Ext w w') : RMade w' B0 C k L ls v :=
  ⟨own_ext h.row he, fun n hn => (h.lev n hn).ext he, h.new, h.sep⟩
theorem RMade.setc {w : World} {B0 k : Nat} {C : Cfg} {L : Nat → RLev} {ls : Nat → List Int} {v : Value} (h : RMade w B0 C k L ls v) {b : Nat} (hb : b < B0) (o : Nat) (u : Value) : RMade (w.setCell ⟨b, o, none⟩ u) B0 C k L ls v :=
  ⟨own_setc h.row hb o u, fun n hn => (h.lev n hn).keep (fun j hj => setCell_other _ _ (by have := h.new n hn j hj; omega)), h.new, h.sep⟩
/-- One more. -/
theorem RMade.next {w0 w w' : World} {B0 k : Nat} {C : Cfg} {L : Nat → RLev} {ls : Nat → List Int} {v v' : Value} {M : RLev} {l : List Int} {o : Obj} (h : RMade w0 B0 C k L ls v) (he : Ext w0 w) (hB : B0 ≤ w0.heap.size) (hM : RLvAt w M C k l) (hN : ∀ j, M.foot C k j → w0.heap.size ≤ j) (hl : l = ls k)
    (hown : w'.ownsRow B0 45 1 v' (rp L k ++ [Value.pointer (some ⟨M.p, 0, none⟩)]).length (rp L k ++ [Value.pointer (some ⟨M.p, 0, none⟩)])) (hg : (w.alloc o).grownBy w' v.ownBlock) : RMade w' B0 C (k + 1) (fun n => if n = k then M else L n) ls v' := by
  subst hl
  have hw := h.ext he
  have hkeep : ∀ {n : Nat} {K : RLev} {l : List Int}, RLvAt w K C n l → RLvAt w' K C n l := fun {n K l} hK => hK.keep (fun j hj => grown_old hg (hK.lt hj) (fun e => by
    obtain ⟨cu, hc⟩ := own_type hw.row e.symm
    exact (hK.ty hj hc).1 rfl))
  refine ⟨?_, fun n hn => ?_, fun n hn j hj => ?_, fun m n hm hn hmn => ?_⟩
  · rw [rp_succ, if_pos rfl, rp_cong (L' := L) (fun i hi => if_neg (by omega))]
    exact hown
  · by_cases e : n = k
    · subst e; rw [if_pos rfl]; exact hkeep hM
    · rw [if_neg e]; exact hkeep (hw.lev n (by omega))
  · by_cases e : n = k
    · subst e; rw [if_pos rfl] at hj; exact Nat.le_trans hB (hN j hj)
    · rw [if_neg e] at hj; exact h.new n (by omega) j hj
  · by_cases e : m = k
    · subst e
      rw [if_pos rfl, if_neg (by omega)]
      intro j h1 h2
      have a := hN j h1
      have b := (h.lev n (by omega)).lt h2
      omega
    · rw [if_neg e]
      by_cases e' : n = k
      · subst e'
        rw [if_pos rfl]
        intro j h1 h2
        have a := hN j h2
        have b := (h.lev m (by omega)).lt h1
        omega
      · rw [if_neg e']; exact h.sep m n (by omega) (by omega) hmn
/-- All levels, and the stack's own block: a stack. -/
theorem RMade.stack {w : World} {s B0 B : Nat} {C : Cfg} {L : Nat → RLev} {ls : Nat → List Int} {v : Value} (h : RMade w B0 C (B + 1) L ls v) (hok : C.Ok) (hB : C.bits = B) (hs : w.heap[s]? = some (.cells #[.int .i64 C.bits, .int .i64 C.rows, .int .i64 C.width, .int .i64 C.mode, .int .u64 C.seed, v] 48 (0, 0))) :
    ∃ t, B0 ≤ t ∧ RKAt w s t C B L ls := by
  have hl := rp_len L (B + 1)
  rcases h.row.2 with ⟨_, h0⟩ | ⟨g, cap, cur, rfl, hbg, hg, hnc, hcm, hcs, htake⟩
  · rw [hl] at h0; omega
  · rw [hl] at hs hnc
    refine ⟨g, hbg, ⟨⟨cap, hs, hnc⟩, ⟨cur, hg, fun n hn => ?_⟩, fun n hn => h.lev n (by omega), fun m n hm hn => h.sep m n (by omega) (by omega), hok, hB⟩⟩
    have h1 := h.row.cells (g := g) rfl n _ (rp_get L (show n < B + 1 by omega))
    rw [show ((⟨g, 0, none⟩ : Addr).add n) = ⟨g, n, none⟩ by (simp [Addr.add]; intro e; exact e.symm), cell_of hg] at h1
    exact h1
def RKNewPost (w : World) (C : Cfg) (B : Nat) (ls : Nat → List Int) (e : Ending) (w' : World) : Prop :=
  ∃ (s t : Nat) (L : Nat → RLev), e = .returned (.pointer (some ⟨s, 0, none⟩)) ∧ RKAt w' s t C B L ls ∧ (∀ k, rkF s t C B L k → w.heap.size ≤ k) ∧ Ext w w'
theorem RMade.post {w wr : World} {s B0 B : Nat} {C : Cfg} {L : Nat → RLev} {ls : Nat → List Int} {v : Value} (h : RMade wr B0 C (B + 1) L ls v) (hok : C.Ok) (hB : C.bits = B) (hs : wr.heap[s]? = some (.cells #[.int .i64 C.bits, .int .i64 C.rows, .int .i64 C.width, .int .i64 C.mode, .int .u64 C.seed, v] 48 (0, 0))) (hsw : w.heap.size ≤ s) (hB0 : w.heap.size ≤ B0) (hE : Ext w wr) :
    RKNewPost w C B ls (.returned (.pointer (some ⟨s, 0, none⟩))) wr := by
  obtain ⟨t, ht, hK⟩ := h.stack hok hB hs
  refine ⟨s, t, L, rfl, hK, ?_, hE⟩
  rintro k (rfl | rfl | ⟨n, hn, hk⟩)
  · exact hsw
  · omega
  · exact Nat.le_trans hB0 (h.new n (by omega) k hk)
set_option maxRecDepth 20000 in
set_option maxHeartbeats 8000000 in
theorem RKNew_c (C : Cfg) (hok : C.Ok) (B : Nat) (hB : C.bits = B) (w : World) :
    Calls Tryz.prog 17 #[.agg #[.int .i64 C.bits, .int .i64 C.rows, .int .i64 C.width, .int .i64 C.mode, .int .u64 C.seed]] w (RKNewPost w C B (fun n => zs (lvN C n))) := by
  have hb2 := hok.b2
  have hbd : B ≤ 59 := by omega
  have HB := Lib.hid hB
  obtain ⟨W0, hW0⟩ : ∃ W0, w.alloc (.cells #[.int .i64 C.bits, .int .i64 C.rows, .int .i64 C.width, .int .i64 C.mode, .int .u64 C.seed] 24) = W0 := ⟨_, rfl⟩
  have hCb : W0.heap[w.heap.size]? = some (.cells #[.int .i64 C.bits, .int .i64 C.rows, .int .i64 C.width, .int .i64 C.mode, .int .u64 C.seed] 24 (0, 0)) := by rw [← hW0]; exact heap_at _ _ rfl
  have hE : Ext w W0 := by rw [← hW0]; exact Ext.alloc' _ _
  have hsz : W0.heap.size = w.heap.size + 1 := by rw [← hW0, size_alloc]
  have hC := CfgAt.of hCb
  have c0 := hC.c0
  have c1 := hC.c1
  have c2 := hC.c2
  have c3 := hC.c3
  have c4 := hC.c4
  have cl := hC.lt
  have HCB := Lib.hid hCb
  have HSZ := Lib.hid hsz
  clear hC hB hCb hsz hb2
  go_enter Tryz.func17, Tryz.ntmps17
  go_upto_region 1 with (fail)
  try rw [hW0]
  clear hW0
  go_wp2_with fail
  clear c0 c1 c2 c3 c4 cl
  go_loopw [4] (fun u4 wr => ∃ (k : Nat) (L : Nat → RLev) (v : Value), k ≤ B + 1 ∧ u4 = .int .i64 k ∧ Ext W0 wr ∧ wr.heap[W0.heap.size]? = some (.cells #[.int .i64 C.bits, .int .i64 C.rows, .int .i64 C.width, .int .i64 C.mode, .int .u64 C.seed, v] 48 (0, 0)) ∧ RMade wr (W0.heap.size + 1) C k L (fun n => zs (lvN C n)) v) (fun u4 _ => B + 1 - (intOf u4).toNat)
  case atStart => exact ⟨0, fun _ => ⟨0, 0, ⟨0, 0, fun _ => 0, fun _ => 0⟩⟩, _, Nat.zero_le _, rfl, Ext.alloc' _ _, heap_at _ _ rfl, RMade.zero _ _ _ _ _⟩
  case round =>
    obtain ⟨k, L, v, hk, rfl, hE0, hbx, hM⟩ := hrel
    have hCq := CfgAt.of (hE0.keep HCB.out)
    have c0 := hCq.c0
    have c1 := hCq.c1
    have c2 := hCq.c2
    have c3 := hCq.c3
    have c4 := hCq.c4
    have cl := hCq.lt
    have hbl := lt_of hbx
    have HBX := Lib.hid hbx
    have HM := Lib.hid hM
    clear hCq hM
    by_cases hlt : k < B + 1
    · have hle : (k : Int) ≤ C.bits := by have := HB.out; omega
      have b5 := (cell_of hbx 5).trans rfl
      have HL := Lib.hid (fun W' => RLNew_c C hok k (Int.natCast_nonneg k) hle W')
      obtain ⟨S, hSS⟩ : ∃ S : Nat → Prop, ∀ i, S i ↔ v.ownBlock = some i := ⟨_, fun _ => Iff.rfl⟩
      have n1 : ¬ S w.heap.size := fun h => by have := own_blk HM.out.row ((hSS _).1 h); have := HSZ.out; omega
      have n2 : ¬ S W0.heap.size := fun h => by have := own_blk HM.out.row ((hSS _).1 h); omega
      have HSS := Lib.hid hSS
      clear hbx hSS
      go_wp2_with fail
      have hC0 := afs_drew S wr
      refine pi_start (fun w' => ∃ z : AftS S wr, w' = z.w) [12] (by kernel_rfl) ?_
      refine pi_t 0 rfl (by kernel_rfl) (by kernel_rfl) (fun _ _ _ _ h => h) (fun K hK => ?_)
      go_big_quiet_op
      refine hK _ ?_
      clear hK K
      refine pi_t 1 rfl (by kernel_rfl) (by kernel_rfl) (fun _ _ _ _ h => h) (fun K hK => ?_)
      go_big_quiet_op
      refine hK _ ?_
      clear hK K
      refine pi_t 2 rfl (by kernel_rfl) (by kernel_rfl) (fun _ _ _ _ h => h) (fun K hK => ?_)
      go_big_quiet_op
      refine hK _ ?_
      clear hK K
      refine pi_t 3 rfl (by kernel_rfl) (by kernel_rfl) (fun _ _ _ _ h => h) (fun K hK => ?_)
      go_big_quiet_op
      refine hK _ ?_
      clear hK K
      refine pi_t 6 rfl (by kernel_rfl) (by kernel_rfl) (fun _ _ _ _ h => h) (fun K hK => ?_)
      go_big_quiet_op
      refine hK _ ?_
      clear hK K
      refine pi_c 4 (by assumption) rfl (by kernel_rfl) (by kernel_rfl) (fun _ _ _ _ h => h) (fun K hK => ?_)
      go_big_quiet_op
      refine hK _ ?_
      clear hK K
      refine pi_c 5 (by assumption) rfl (by kernel_rfl) (by kernel_rfl) (fun _ _ _ _ h => h) (fun K hK => ?_)
      go_big_quiet_op
      refine hK _ ?_
      clear hK K
      refine pi_l 7 rfl (by kernel_rfl) (fun K hK => ?_)
      go_wp2_with (go_at_call 47; refine Calls.mono (HL.out _) ?_; rintro e wt ⟨M, rfl, hMv, hMf, hxt⟩)
      have hEt : Ext wr wt := Ext.trans' (Below.drew (Ext.refl wr)) hxt
      refine hK _ _ (fun _ h => afs_step h hxt) ?_
      clear hK K
      have HMV := Lib.hid hMv
      have HMF := Lib.hid (show ∀ j, M.foot C k j → wr.heap.size ≤ j from hMf)
      have HR := Lib.hid (HM.out.ext hEt).row
      have hz := hE0.size
      have hzt := hEt.size
      obtain ⟨i0, z0, hi0, hz0, hz1, hz2, hz3⟩ := info_lp
      clear hMv hMf hxt
      refine pi_l 8 rfl (by kernel_rfl) (fun K hK => ?_)
      go_wp2
      refine hK _ _ (fun _ h => afs_step h (Ext.alloc' _ _)) ?_
      clear hK K
      refine pi_l 9 rfl (by kernel_rfl) (fun K hK => ?_)
      go_wp2_with (at_builtin; refine wpList_appB wt 8 (by decide) (.pointer (some ⟨M.p, 0, none⟩)) rfl (rp L k) v (W0.heap.size + 1) 45 HR.out 46 rfl _ _ rfl i0 z0 hi0 hz0 hz1 hz2 hz3 Tryz.underlying46 (by rfl) (by rfl) ?b1 ?b2 ?_)
      case b1 => rw [rp_len]; omega
      case b2 => omega
      intro v' wf g1 g2
      have hEf : Ext W0 wf := ext_grown (hE0.trans' hEt) g2 (fun i hi => by have := own_blk HR.out hi; omega)
      have hnext := HM.out.next hEt (by omega) HMV.out HMF.out rfl (by rw [List.length_append]; exact g1) g2
      have hbf := (grown_old g2 (show W0.heap.size < wt.heap.size by omega) (fun e => by have := own_blk HR.out e.symm; omega)).trans (hEt.keep HBX.out)
      have HN := Lib.hid hnext
      have f5 := frozen_of hbf 5
      have q5 := (cell_of hbf 5).trans rfl
      have ql := lt_of hbf
      have HBF := Lib.hid hbf
      obtain ⟨pv, nv, cv, rfl⟩ := own_slice g1
      have hmf : Mod S wr wf := mod_grown (hEt.mod _) g2 (fun i hi => (HSS.out i).2 hi)
      clear g1 g2 hnext hbf
      go_wp2
      refine hK _ _ (fun _ _ => ⟨⟨wf, hmf⟩, rfl⟩) ?_
      clear hK K
      refine pi_t 10 rfl (by kernel_rfl) (by kernel_rfl) (fun _ _ _ _ h => h) (fun K hK => ?_)
      go_big_quiet_op
      refine hK _ ?_
      clear hK K
      refine pi_t 11 rfl (by kernel_rfl) (by kernel_rfl) (fun _ _ _ _ h => h) (fun K hK => ?_)
      go_big_quiet_op
      refine hK _ ?_
      clear hK K
      refine pi_l 12 rfl (by kernel_rfl) (fun K hK => ?_)
      go_wp2
      refine hK _ _ (by simp) ?_
      clear hK K
      refine pi_end (by kernel_rfl) ?_
      go_wp2_with fail
      go_roundw
      case rel => exact ⟨k + 1, _, _, by omega, by go_num, hEf.setR (p := ⟨W0.heap.size, 5, none⟩) (Nat.le_refl _) _, (setCell_same HBF.out 5 _).trans rfl, HN.out.setc (by omega) _ _⟩
      case measure => simp [intOf]; omega
    · obtain rfl : k = B + 1 := by omega
      have hgt : ¬ (((B + 1 : Nat) : Int) ≤ C.bits) := by have := HB.out; omega
      have hgt2 : decide (((B + 1 : Nat) : Int) ≤ C.bits) = false := decide_eq_false hgt
      clear hbx
      go_wp2
      go_ret
      exact HM.out.post hok HB.out HBX.out hE.size (by have := HSZ.out; omega) (hE.trans' hE0)
end Go.Proofs.YteoblkcbemeamaaGreat

/- gaugerref15: Copy, Update, Total, Point. -/
namespace Go.Proofs.YteoblkcbemeamaaGreat
set_option linter.unusedVariables false
open Go.RowKit
set_option maxRecDepth 20000 in
set_option maxHeartbeats 8000000 in
theorem RKCopy_c (s t : Nat) (C : Cfg) (B : Nat) (L0 : Nat → RLev) (ls : Nat → List Int) (w : World) (h : RKAt w s t C B L0 ls) :
    Calls Tryz.prog 21 #[.pointer (some ⟨s, 0, none⟩)] w (RKNewPost w C B ls) := by
  have hok := h.ok
  have hb2 := hok.b2
  have hB := h.hB
  have hbd : B ≤ 59 := by omega
  have HB := Lib.hid hB
  have HH := Lib.hid h
  have hls := h.lts
  obtain ⟨cap, hex, hcap⟩ := h.ex
  have c0 := (cell_of hex 0).trans rfl
  have c1 := (cell_of hex 1).trans rfl
  have c2 := (cell_of hex 2).trans rfl
  have c3 := (cell_of hex 3).trans rfl
  have c4 := (cell_of hex 4).trans rfl
  have HEX := Lib.hid hex
  clear hex h hB hb2
  go_enter Tryz.func21, Tryz.ntmps21
  go_wp2_with fail
  clear c0 c1 c2 c3 c4
  go_loopw [4] (fun u4 wr => ∃ (k : Nat) (L : Nat → RLev) (v : Value), k ≤ B + 1 ∧ u4 = .int .i64 k ∧ Ext w wr ∧ wr.heap[w.heap.size]? = some (.cells #[.int .i64 C.bits, .int .i64 C.rows, .int .i64 C.width, .int .i64 C.mode, .int .u64 C.seed, v] 48 (0, 0)) ∧ RMade wr (w.heap.size + 1) C k L ls v) (fun u4 _ => B + 1 - (intOf u4).toNat)
  case atStart => exact ⟨0, fun _ => ⟨0, 0, ⟨0, 0, fun _ => 0, fun _ => 0⟩⟩, _, Nat.zero_le _, rfl, Ext.alloc' _ _, heap_at _ _ rfl, RMade.zero _ _ _ _ _⟩
  case round =>
    obtain ⟨k, L, v, hk, rfl, hE0, hbx, hM⟩ := hrel
    have hHr := HH.out.ext hE0
    have e5 := (cell_of (hE0.keep HEX.out) 5).trans rfl
    have el := hHr.lts
    have hbl := lt_of hbx
    have HBX := Lib.hid hbx
    have HM := Lib.hid hM
    clear hM
    by_cases hlt : k < B + 1
    · have b5 := (cell_of hbx 5).trans rfl
      have ck := hHr.cell (show k ≤ B by omega)
      have lt0 := hHr.ltt
      have HL := Lib.hid (fun W' (hW : Ext wr W') => RLCopy_c (L0 k) C k (ls k) W' ((hHr.lev k (by omega)).ext hW))
      obtain ⟨S, hSS⟩ : ∃ S : Nat → Prop, ∀ i, S i ↔ v.ownBlock = some i := ⟨_, fun _ => Iff.rfl⟩
      have n1 : ¬ S s := fun h => by have := own_blk HM.out.row ((hSS _).1 h); omega
      have n2 : ¬ S w.heap.size := fun h => by have := own_blk HM.out.row ((hSS _).1 h); omega
      have n3 : ¬ S t := fun h => by have := own_blk HM.out.row ((hSS _).1 h); have := HH.out.ltt; omega
      have hkz : (k : Int) < (B : Int) + 1 := by omega
      have HSS := Lib.hid hSS
      clear hbx hSS hHr
      go_wp2_with fail
      have hC0 := afs_drew S wr
      refine pi_start (fun w' => ∃ z : AftS S wr, w' = z.w) [17] (by kernel_rfl) ?_
      refine pi_t 0 rfl (by kernel_rfl) (by kernel_rfl) (fun _ _ _ _ h => h) (fun K hK => ?_)
      go_big_quiet_op
      refine hK _ ?_
      clear hK K
      refine pi_t 1 rfl (by kernel_rfl) (by kernel_rfl) (fun _ _ _ _ h => h) (fun K hK => ?_)
      go_big_quiet_op
      refine hK _ ?_
      clear hK K
      refine pi_t 2 rfl (by kernel_rfl) (by kernel_rfl) (fun _ _ _ _ h => h) (fun K hK => ?_)
      go_big_quiet_op
      refine hK _ ?_
      clear hK K
      refine pi_t 3 rfl (by kernel_rfl) (by kernel_rfl) (fun _ _ _ _ h => h) (fun K hK => ?_)
      go_big_quiet_op
      refine hK _ ?_
      clear hK K
      refine pi_t 5 rfl (by kernel_rfl) (by kernel_rfl) (fun _ _ _ _ h => h) (fun K hK => ?_)
      go_big_quiet_op
      refine hK _ ?_
      clear hK K
      refine pi_t 6 rfl (by kernel_rfl) (by kernel_rfl) (fun _ _ _ _ h => h) (fun K hK => ?_)
      go_big_quiet_op
      refine hK _ ?_
      clear hK K
      refine pi_t 7 rfl (by kernel_rfl) (by kernel_rfl) (fun _ _ _ _ h => h) (fun K hK => ?_)
      go_big_quiet_op
      refine hK _ ?_
      clear hK K
      refine pi_t 9 rfl (by kernel_rfl) (by kernel_rfl) (fun _ _ _ _ h => h) (fun K hK => ?_)
      go_big_quiet_op
      refine hK _ ?_
      clear hK K
      refine pi_c 4 (by assumption) rfl (by kernel_rfl) (by kernel_rfl) (fun _ _ _ _ h => h) (fun K hK => ?_)
      go_big_quiet_op
      refine hK _ ?_
      clear hK K
      refine pi_c 8 (by assumption) rfl (by kernel_rfl) (by kernel_rfl) (fun _ _ _ _ h => h) (fun K hK => ?_)
      go_big_quiet_op
      refine hK _ ?_
      clear hK K
      refine pi_t 10 rfl (by kernel_rfl) (by kernel_rfl) (fun _ _ _ _ h => h) (fun K hK => ?_)
      go_big_quiet_op
      refine hK _ ?_
      clear hK K
      refine pi_c 11 (by assumption) rfl (by kernel_rfl) (by kernel_rfl) (fun _ _ _ _ h => h) (fun K hK => ?_)
      go_big_quiet_op
      refine hK _ ?_
      clear hK K
      refine pi_l 12 rfl (by kernel_rfl) (fun K hK => ?_)
      go_wp2_with (go_at_call 49; refine Calls.mono (HL.out _ (Below.drew (Ext.refl wr))) ?_; rintro e wt ⟨M, rfl, hMv, hMf, hxt⟩)
      have hEt : Ext wr wt := Ext.trans' (Below.drew (Ext.refl wr)) hxt
      refine hK _ _ (fun _ h => afs_step h hxt) ?_
      clear hK K
      have HMV := Lib.hid hMv
      have HMF := Lib.hid (show ∀ j, M.foot C k j → wr.heap.size ≤ j from hMf)
      have HR := Lib.hid (HM.out.ext hEt).row
      have hz := hE0.size
      have hzt := hEt.size
      obtain ⟨i0, z0, hi0, hz0, hz1, hz2, hz3⟩ := info_lp
      clear hMv hMf hxt
      refine pi_l 13 rfl (by kernel_rfl) (fun K hK => ?_)
      go_wp2
      refine hK _ _ (fun _ h => afs_step h (Ext.alloc' _ _)) ?_
      clear hK K
      refine pi_l 14 rfl (by kernel_rfl) (fun K hK => ?_)
      go_wp2_with (at_builtin; refine wpList_appB wt 8 (by decide) (.pointer (some ⟨M.p, 0, none⟩)) rfl (rp L k) v (w.heap.size + 1) 45 HR.out 46 rfl _ _ rfl i0 z0 hi0 hz0 hz1 hz2 hz3 Tryz.underlying46 (by rfl) (by rfl) ?b1 ?b2 ?_)
      case b1 => rw [rp_len]; omega
      case b2 => omega
      intro v' wf g1 g2
      have hEf : Ext w wf := ext_grown (hE0.trans' hEt) g2 (fun i hi => by have := own_blk HR.out hi; omega)
      have hnext := HM.out.next hEt (by omega) HMV.out HMF.out rfl (by rw [List.length_append]; exact g1) g2
      have hbf := (grown_old g2 (show w.heap.size < wt.heap.size by omega) (fun e => by have := own_blk HR.out e.symm; omega)).trans (hEt.keep HBX.out)
      have HN := Lib.hid hnext
      have f5 := frozen_of hbf 5
      have q5 := (cell_of hbf 5).trans rfl
      have ql := lt_of hbf
      have HBF := Lib.hid hbf
      obtain ⟨pv, nv, cv, rfl⟩ := own_slice g1
      have hmf : Mod S wr wf := mod_grown (hEt.mod _) g2 (fun i hi => (HSS.out i).2 hi)
      clear g1 g2 hnext hbf
      go_wp2
      refine hK _ _ (fun _ _ => ⟨⟨wf, hmf⟩, rfl⟩) ?_
      clear hK K
      refine pi_t 15 rfl (by kernel_rfl) (by kernel_rfl) (fun _ _ _ _ h => h) (fun K hK => ?_)
      go_big_quiet_op
      refine hK _ ?_
      clear hK K
      refine pi_t 16 rfl (by kernel_rfl) (by kernel_rfl) (fun _ _ _ _ h => h) (fun K hK => ?_)
      go_big_quiet_op
      refine hK _ ?_
      clear hK K
      refine pi_l 17 rfl (by kernel_rfl) (fun K hK => ?_)
      go_wp2
      refine hK _ _ (by simp) ?_
      clear hK K
      refine pi_end (by kernel_rfl) ?_
      go_wp2_with fail
      go_roundw
      case rel => exact ⟨k + 1, _, _, by omega, by go_num, hEf.setR (p := ⟨w.heap.size, 5, none⟩) (Nat.le_refl _) _, (setCell_same HBF.out 5 _).trans rfl, HN.out.setc (by omega) _ _⟩
      case measure => simp [intOf]; omega
    · obtain rfl : k = B + 1 := by omega
      clear hbx hHr
      go_wp2
      go_ret
      exact HM.out.post hok HB.out HBX.out (Nat.le_refl _) (Nat.le_succ _) hE0
def RKUpdPost (w : World) (s : Nat) (C : Cfg) (B : Nat) (ls : Nat → List Int) (key d : Int) (e : Ending) (w' : World) : Prop :=
  e = .returned (.int .i64 (errK C B ls key d)) ∧ ((errK C B ls key d = 0 ∧ ∃ t L, RKAt w' s t C B L (updK C ls key d) ∧ (∀ k, rkF s t C B L k → k = s ∨ w.heap.size ≤ k) ∧ Mod (fun k => k = s) w w') ∨ (errK C B ls key d ≠ 0 ∧ Ext w w'))
theorem errs_first {C : Cfg} {ls : Nat → List Int} {key d : Int} {n : Nat} (h0 : ∀ m, m < n → lvE C m (ls m) (sh m key) d = 0) (hn : lvE C n (ls n) (sh n key) d ≠ 0) : ∀ {m : Nat}, n < m → errs C ls key d m = lvE C n (ls n) (sh n key) d := by
  intro m hm
  induction m with
  | zero => omega
  | succ m ih =>
    by_cases e : m = n
    · subst e
      show fst_ (errs C ls key d m) _ = _
      rw [errs_zero.2 h0]; rfl
    · show fst_ (errs C ls key d m) _ = _
      rw [ih (by omega)]
      unfold fst_
      rw [decide_eq_false hn]; rfl
theorem errK_neg {C : Cfg} (hok : C.Ok) {B : Nat} (hB : C.bits = B) {ls : Nat → List Int} {key d : Int} (hk0 : 0 ≤ key) (hk : key < keys C 0) (hm : C.mode = 2) (hd : d < 0) : errK C B ls key d = 3 := by
  have h0 : lvE C (0 : Nat) (ls 0) (sh 0 key) d = 3 := by
    have hs : sh 0 key < keys C (0 : Nat) := sh_lt hok (by omega) hk0 hk
    cases hx : isX C (0 : Nat) with
    | true => rw [lvE_x hx]; exact errX_neg hs hm hd
    | false => rw [lvE_s hx]; exact errU_neg hs hm hd
  unfold errK
  rw [decide_eq_false (by omega)]
  show errs C ls key d (B + 1) = 3
  rw [errs_first (n := 0) (fun m hm => by omega) (by rw [h0]; decide) (Nat.succ_pos B), h0]
/-- A stack in which some levels have been told of an update. -/
theorem RKAt.put {w w' : World} {s t : Nat} {C : Cfg} {B : Nat} {L : Nat → RLev} {ls : Nat → List Int} (h : RKAt w s t C B L ls) {n : Nat} (hn : n ≤ B) {l : List Int} (hm : Mod ((L n).foot C n) w w') (hl : RLvAt w' (L n) C n l) : RKAt w' s t C B L (fun m => if m = n then l else ls m) := by
  have ty : ∀ {k : Nat} {cur : Array Value} {T : TypeId} {f : Nat × Nat}, w.heap[k]? = some (.cells cur T f) → (T = 45 ∨ T = 48) → ¬ (L n).foot C n k := fun hb hT hf => by
    have := (h.lev n hn).ty hf hb
    rcases hT with rfl | rfl
    · exact this.1 rfl
    · exact this.2 rfl
  obtain ⟨cap, h1, h2⟩ := h.ex
  obtain ⟨cur, h3, h4⟩ := h.row
  refine ⟨⟨cap, hm.keep h1 (ty h1 (.inr rfl)), h2⟩, ⟨cur, hm.keep h3 (ty h3 (.inl rfl)), h4⟩, fun m hm' => ?_, h.sep, h.ok, h.hB⟩
  by_cases e : m = n
  · subst e; rw [if_pos rfl]; exact hl
  · rw [if_neg e]; exact (h.lev m hm').mod hm (fun k hk hf => h.sep m n hm' hn e k hk hf)
theorem RKAt.cong {w : World} {s t : Nat} {C : Cfg} {B : Nat} {L : Nat → RLev} {ls ls' : Nat → List Int} (h : RKAt w s t C B L ls) (he : ∀ n, n ≤ B → ls n = ls' n) : RKAt w s t C B L ls' :=
  ⟨h.ex, h.row, fun n hn => he n hn ▸ h.lev n hn, h.sep, h.ok, h.hB⟩
def partU (C : Cfg) (ls : Nat → List Int) (key d : Int) (k n : Nat) : List Int := if n < k then updK C ls key d n else ls n
set_option maxRecDepth 20000 in
set_option maxHeartbeats 8000000 in
theorem RKUpdate_c (s t : Nat) (C : Cfg) (B : Nat) (L0 : Nat → RLev) (ls : Nat → List Int) (key d : Int) (w : World) (h : RKAt w s t C B L0 ls) (hk : U64 key) (hd : I64 d) :
    Calls Tryz.prog 27 #[.pointer (some ⟨s, 0, none⟩), .int .u64 key, .int .i64 d] w (RKUpdPost w s C B ls key d) := by
  obtain ⟨hk0, hk1⟩ := hk
  have hok := h.ok
  have hb1 := hok.b1
  have hb2 := hok.b2
  have hB := h.hB
  have hbd : B ≤ 59 := by omega
  have HB := Lib.hid hB
  have HH := Lib.hid h
  have hls := h.lts
  obtain ⟨cap, hex, hcap⟩ := h.ex
  have c0 := (cell_of hex 0).trans rfl
  have c1 := (cell_of hex 1).trans rfl
  have c2 := (cell_of hex 2).trans rfl
  have c3 := (cell_of hex 3).trans rfl
  have c4 := (cell_of hex 4).trans rfl
  have HKY := Lib.hid (fun W' => KeysR_c C hok 0 (Int.le_refl 0) (by omega) W')
  have HD := Lib.hid hd
  have HEX := Lib.hid hex
  clear hex h hB hd
  by_cases hge : keys C 0 ≤ key
  · have he : errK C B ls key d = 2 := by unfold errK; rw [decide_eq_true hge]; rfl
    have hge' : decide (keys C 0 ≤ key) = true := decide_eq_true hge
    unfold RKUpdPost
    rw [he]
    clear he
    go_enter Tryz.func27, Tryz.ntmps27
    go_wp2_with fail
    refine Calls.mono (HKY.out _) ?_
    rintro e w1 ⟨rfl, hx1⟩
    go_wp2
    go_ret
    exact ⟨rfl, by first | exact .inr ⟨by decide, hx1⟩ | exact hx1⟩
  · have hlt : key < keys C 0 := by omega
    have hge' : decide (keys C 0 ≤ key) = false := decide_eq_false hge
    by_cases hmd : C.mode = 2 ∧ d < 0
    · have he : errK C B ls key d = 3 := errK_neg hok HB.out hk0 hlt hmd.1 hmd.2
      obtain ⟨hm, hdn⟩ := hmd
      have hm' : (C.mode == 2) = true := by simpa using hm
      have hdn' : decide (d < 0) = true := decide_eq_true hdn
      unfold RKUpdPost
      rw [he]
      clear he hm
      go_enter Tryz.func27, Tryz.ntmps27
      go_wp2_with fail
      refine Calls.mono (HKY.out _) ?_
      rintro e w1 ⟨rfl, hx1⟩
      have d3 := ((bcell hx1).1 _ _ hls).trans c3
      have dl := Nat.lt_of_lt_of_le hls hx1.size
      go_wp2
      go_ret
      exact ⟨rfl, by first | exact .inr ⟨by decide, hx1⟩ | exact hx1⟩
    · have HNG := Lib.hid hmd
      have herr : errK C B ls key d = errs C ls key d (B + 1) := by unfold errK; rw [hge']; rfl
      have HERR := Lib.hid herr
      clear herr hmd
      go_enter Tryz.func27, Tryz.ntmps27
      go_wp2_with fail
      refine Calls.mono (HKY.out _) ?_
      rintro e w1 ⟨rfl, hx1⟩
      have d3 := ((bcell hx1).1 _ _ hls).trans c3
      have dl := Nat.lt_of_lt_of_le hls hx1.size
      clear c0 c1 c2 c3 c4
      go_upto_region 3 with (fail)
      go_cut [26] (fun s26 wx => s26 = .bool false ∧ wx = w1)
      case first =>
        by_cases hm : C.mode = 2
        · have hm' : (C.mode == 2) = true := by simpa using hm
          have hdn' : decide (d < 0) = false := decide_eq_false (fun h => HNG.out ⟨hm, h⟩)
          have hdn2 : 0 ≤ d := Int.not_lt.mp (fun h => HNG.out ⟨hm, h⟩)
          clear hm
          go_wp2_with fail
          go_meet
          exact ⟨by first | rfl | simp, rfl⟩
        · have hm' : (C.mode == 2) = false := by simpa using hm
          clear hm
          go_wp2_with fail
          go_meet
          exact ⟨rfl, rfl⟩
      case rest =>
        obtain ⟨rfl, rfl⟩ := hcut
        rename World => w1
        clear d3
        have HCP := Lib.hid (RKCopy_c s t C B L0 ls w1 (HH.out.ext hx1))
        go_wp2_with fail
        refine Calls.mono HCP.out ?_
        rintro e w2 ⟨a, t2, L2, rfl, hK2, hF2, hx2⟩
        have HF2 := Lib.hid (show ∀ k, rkF a t2 C B L2 k → w1.heap.size ≤ k from hF2)
        have HK2 : Hid (RKAt w2 a t2 C B L2 (partU C ls key d 0)) := Lib.hid (hK2.cong (fun n _ => by unfold partU; rw [if_neg (Nat.not_lt_zero _)]))
        have hE2 := hx1.trans' hx2
        have hz1 := hx1.size
        clear hK2 hF2 hx2 hx1 dl
        go_wp2_with fail
        go_loopw [8] (fun u8 wr => ∃ k : Nat, k ≤ B + 1 ∧ u8 = .int .i64 k ∧ RKAt wr a t2 C B L2 (partU C ls key d k) ∧ Ext w wr ∧ ∀ m, m < k → lvE C m (ls m) (sh m key) d = 0) (fun u8 _ => B + 1 - (intOf u8).toNat)
        case atStart => exact ⟨0, Nat.zero_le _, rfl, HK2.out, hE2, fun m hm => absurd hm (Nat.not_lt_zero _)⟩
        case round =>
          clear hE2
          obtain ⟨k, hk, rfl, hK, hE, hz⟩ := hrel
          have HZ := Lib.hid hz
          have HK := Lib.hid hK
          have e5 := (cell_of (hE.keep HEX.out) 5).trans rfl
          have el := Nat.lt_of_lt_of_le hls hE.size
          obtain ⟨cap2, hex2, hcap2⟩ := hK.ex
          have a5 := (cell_of hex2 5).trans rfl
          have al := lt_of hex2
          have ltt := hK.ltt
          by_cases hlt2 : k < B + 1
          · have ck := hK.cell (show k ≤ B by omega)
            have hlk := hK.lev k (by omega)
            have hpk : partU C ls key d k k = ls k := by unfold partU; rw [if_neg (Nat.lt_irrefl _)]
            rw [hpk] at hlk
            have hs0 : 0 ≤ sh k key := sh_nn hk0 k
            have hs1 : sh k key < keys C k := sh_lt hok (by have := HB.out; omega) hk0 hlt
            have hs2 := keys_bd C hok k (Int.natCast_nonneg k)
            have hcall : Calls Tryz.prog 50 #[.pointer (some ⟨(L2 k).p, 0, none⟩), .int .u64 (key / 2 ^ k), .int .i64 d] wr (RLUpdPost wr (L2 k) C k (ls k) (sh k key) d) := RLUpdate_c (L2 k) C k (ls k) (sh k key) d wr hlk (by unfold U64; omega) HD.out
            have HCALL := Lib.hid hcall
            have hkz : (k : Int) < (B : Int) + 1 := by omega
            have hk63 : k ≤ 63 := by omega
            clear hz hK hex2 hlk hpk hs0 hs1 hs2 hcall
            go_wp2_with fail
            refine Calls.mono HCALL.out ?_
            rintro e w5 ⟨rfl, hres⟩
            have HRES := Lib.hid hres
            clear hres HCALL
            by_cases he : lvE C k (ls k) (sh k key) d = 0
            · obtain ⟨_, hl5, hM5⟩ := HRES.out.resolve_right (fun h => h.1 he)
              have HL5 := Lib.hid hl5
              have hput := HK.out.put (show k ≤ B by omega) hM5 hl5
              have hE5 : Ext w w5 := Below.trans hE (hM5.below (B := w.heap.size) hE.size (fun j hj => by have := HF2.out j (.inr (.inr ⟨k, by omega, hj⟩)); omega))
              have HPUT : Hid (RKAt w5 a t2 C B L2 (partU C ls key d (k + 1))) := Lib.hid (hput.cong (fun n _ => by
                unfold partU
                by_cases e : n = k
                · subst e; rw [if_pos rfl, if_pos (Nat.lt_succ_self _)]; rfl
                · rw [if_neg e]
                  by_cases e2 : n < k
                  · rw [if_pos e2, if_pos (by omega)]
                  · rw [if_neg e2, if_neg (by omega)]))
              have HE0 := Lib.hid he
              rw [he]
              clear hl5 hM5 hput he HRES
              go_wp2
              go_roundw
              case rel =>
                refine ⟨k + 1, by omega, by go_num, HPUT.out, hE5, fun m hm => ?_⟩
                by_cases e : m = k
                · rw [e]; exact HE0.out
                · exact HZ.out m (by omega)
              case measure => simp [intOf]; omega
            · obtain ⟨_, hx5⟩ := HRES.out.resolve_left (fun h => he h.1)
              have hfin : errK C B ls key d = lvE C k (ls k) (sh k key) d := by rw [HERR.out]; exact errs_first HZ.out he (by omega)
              clear HRES
              generalize lvE C k (ls k) (sh k key) d = er at *
              have HFIN := Lib.hid hfin
              have HE0 := Lib.hid he
              have heb : (er != 0) = true := by simpa using he
              have hEf := hE.trans' hx5
              clear he hfin
              go_wp2
              go_ret
              exact ⟨by rw [HFIN.out]; rfl, .inr ⟨by rw [HFIN.out]; exact HE0.out, hEf⟩⟩
          · obtain rfl : k = B + 1 := by omega
            have fe := frozen_of (hE.keep HEX.out) 5
            have HEXR := Lib.hid (hE.keep HEX.out)
            have h0 : errK C B ls key d = 0 := by rw [HERR.out]; exact errs_zero.2 HZ.out
            have H0 := Lib.hid h0
            clear hz hK hex2 h0
            go_wp2
            go_ret
            refine ⟨by rw [H0.out]; rfl, .inl ⟨H0.out, t2, L2, ⟨⟨cap2, (setCell_same HEXR.out 5 _).trans rfl, hcap2⟩, ?_, fun n hn => ?_, HK.out.sep, hok, HB.out⟩, ?_, (hE.mod _).trans (mod_set _ _ _ _)⟩⟩
            · obtain ⟨cur, h3, h4⟩ := HK.out.row
              exact ⟨cur, (setCell_other _ _ (by have := HF2.out t2 (.inr (.inl rfl)); omega)).trans h3, h4⟩
            · have hl := HK.out.lev n hn
              have hp : partU C ls key d (B + 1) n = updK C ls key d n := by unfold partU; rw [if_pos (by omega)]
              rw [hp] at hl
              exact hl.keep (fun j hj => setCell_other _ _ (by have := HF2.out j (.inr (.inr ⟨n, hn, hj⟩)); omega))
            · rintro j (rfl | rfl | ⟨n, hn, hj⟩)
              · exact .inl rfl
              · exact .inr (by have := HF2.out j (.inr (.inl rfl)); omega)
              · exact .inr (by have := HF2.out j (.inr (.inr ⟨n, hn, hj⟩)); omega)
end Go.Proofs.YteoblkcbemeamaaGreat

/- gaugerref15: Total, Point. -/
namespace Go.Proofs.YteoblkcbemeamaaGreat
set_option linter.unusedVariables false
open Go.RowKit
/-- What a stack answers of a piece. -/
def ptP (C : Cfg) (B : Nat) (ls : Nat → List Int) (lv key x r : Int) : Prop :=
  ((lv < 0 ∨ (B : Int) < lv) ∧ x = 0 ∧ r = 2) ∨ ∃ n : Nat, lv = n ∧ n ≤ B ∧ ptA C n (ls n) key x r
theorem ptP_unique {C : Cfg} {B : Nat} {ls : Nat → List Int} {lv key x r y t : Int} (h : ptP C B ls lv key x r) (h2 : ptP C B ls lv key y t) : x = y ∧ r = t := by
  rcases h with ⟨a, rfl, rfl⟩ | ⟨n, rfl, a, b⟩ <;> rcases h2 with ⟨a2, rfl, rfl⟩ | ⟨m, e, a2, b2⟩
  · exact ⟨rfl, rfl⟩
  · omega
  · omega
  · obtain rfl : n = m := by omega
    exact ptA_unique b b2
set_option maxRecDepth 20000 in
set_option maxHeartbeats 8000000 in
theorem RKTotal_c (s t : Nat) (C : Cfg) (B : Nat) (L : Nat → RLev) (ls : Nat → List Int) (w : World) (h : RKAt w s t C B L ls) :
    Calls Tryz.prog 29 #[.pointer (some ⟨s, 0, none⟩)] w fun e w' => ∃ x r, e = .returned (.int .i64 x) ∧ ptA C B (ls B) 0 x r ∧ Ext w w' := by
  obtain ⟨cap, hex, hcap⟩ := h.ex
  have c5 := (cell_of hex 5).trans rfl
  have hls := lt_of hex
  have ltt := h.ltt
  have ck := h.cell (Nat.le_refl B)
  have hlev := h.lev B (Nat.le_refl B)
  have HP := Lib.hid (fun W' (hE : Ext w W') => RLPoint_c (L B) C B (ls B) 0 W' (hlev.ext hE) (by unfold U64; omega))
  have hbd : B ≤ 59 := by have := h.hB; have := h.ok.b2; omega
  have hb1 : (B : Int) + 1 - 1 = B := by omega
  clear hex h hlev
  go_enter Tryz.func29, Tryz.ntmps29
  go_wp2_with fail
  have hC0 := af_drew w
  refine pi_start (fun w' => ∃ z : After w, w' = z.w) [] (by kernel_rfl) ?_
  refine pi_t 0 rfl (by kernel_rfl) (by kernel_rfl) (fun _ _ _ _ h => h) (fun K hK => ?_)
  go_big_quiet_op
  refine hK _ ?_
  clear hK K
  refine pi_t 1 rfl (by kernel_rfl) (by kernel_rfl) (fun _ _ _ _ h => h) (fun K hK => ?_)
  go_big_quiet_op
  refine hK _ ?_
  clear hK K
  refine pi_t 2 rfl (by kernel_rfl) (by kernel_rfl) (fun _ _ _ _ h => h) (fun K hK => ?_)
  go_big_quiet_op
  refine hK _ ?_
  clear hK K
  refine pi_t 4 rfl (by kernel_rfl) (by kernel_rfl) (fun _ _ _ _ h => h) (fun K hK => ?_)
  go_big_quiet_op
  refine hK _ ?_
  clear hK K
  refine pi_t 5 rfl (by kernel_rfl) (by kernel_rfl) (fun _ _ _ _ h => h) (fun K hK => ?_)
  go_big_quiet_op
  refine hK _ ?_
  clear hK K
  refine pi_t 6 rfl (by kernel_rfl) (by kernel_rfl) (fun _ _ _ _ h => h) (fun K hK => ?_)
  go_big_quiet_op
  refine hK _ ?_
  clear hK K
  refine pi_c 3 (by assumption) rfl (by kernel_rfl) (by kernel_rfl) (fun _ _ _ _ h => h) (fun K hK => ?_)
  go_big_quiet_op
  refine hK _ ?_
  clear hK K
  refine pi_c 7 (by assumption) rfl (by kernel_rfl) (by kernel_rfl) (fun _ _ _ _ h => h) (fun K hK => ?_)
  go_big_quiet_op
  refine hK _ ?_
  clear hK K
  refine pi_t 8 rfl (by kernel_rfl) (by kernel_rfl) (fun _ _ _ _ h => h) (fun K hK => ?_)
  go_big_quiet_op
  refine hK _ ?_
  clear hK K
  refine pi_t 9 rfl (by kernel_rfl) (by kernel_rfl) (fun _ _ _ _ h => h) (fun K hK => ?_)
  go_big_quiet_op
  refine hK _ ?_
  clear hK K
  refine pi_t 10 rfl (by kernel_rfl) (by kernel_rfl) (fun _ _ _ _ h => h) (fun K hK => ?_)
  go_big_quiet_op
  refine hK _ ?_
  clear hK K
  refine pi_c 11 (by assumption) rfl (by kernel_rfl) (by kernel_rfl) (fun _ _ _ _ h => h) (fun K hK => ?_)
  go_big_quiet_op
  refine hK _ ?_
  clear hK K
  refine pi_l 12 rfl (by kernel_rfl) (fun K hK => ?_)
  go_wp2_with (go_at_call 48; refine (HP.out _ (Below.drew (Ext.refl w))).mono ?_; rintro e w1 ⟨x, r, rfl, hp, hx1⟩)
  have hE1 : Ext w w1 := Ext.trans' (Below.drew (Ext.refl w)) hx1
  refine hK _ _ (fun _ h => af_step h hx1) ?_
  clear hK K
  refine pi_t 13 rfl (by kernel_rfl) (by kernel_rfl) (fun _ _ _ _ h => h) (fun K hK => ?_)
  go_big_quiet_op
  refine hK _ ?_
  clear hK K
  refine pi_t 14 rfl (by kernel_rfl) (by kernel_rfl) (fun _ _ _ _ h => h) (fun K hK => ?_)
  go_big_quiet_op
  refine hK _ ?_
  clear hK K
  refine pi_t 15 rfl (by kernel_rfl) (by kernel_rfl) (fun _ _ _ _ h => h) (fun K hK => ?_)
  go_big_quiet_op
  refine hK _ ?_
  clear hK K
  refine pi_t 16 rfl (by kernel_rfl) (by kernel_rfl) (fun _ _ _ _ h => h) (fun K hK => ?_)
  go_big_quiet_op
  refine hK _ ?_
  clear hK K
  refine pi_t 17 rfl (by kernel_rfl) (by kernel_rfl) (fun _ _ _ _ h => h) (fun K hK => ?_)
  go_big_quiet_op
  refine hK _ ?_
  clear hK K
  refine pi_end (by kernel_rfl) ?_
  have HPT := Lib.hid hp
  clear hp
  go_wp2
  go_ret
  exact ⟨x, r, rfl, HPT.out, hE1⟩
set_option maxRecDepth 20000 in
set_option maxHeartbeats 8000000 in
theorem RKPoint_c (s t : Nat) (C : Cfg) (B : Nat) (L : Nat → RLev) (ls : Nat → List Int) (lv key : Int) (hlv : I64 lv) (hk : U64 key) (w : World) (h : RKAt w s t C B L ls) :
    Calls Tryz.prog 19 #[.pointer (some ⟨s, 0, none⟩), .agg #[.int .i64 lv, .int .u64 key]] w fun e w' => ∃ x r, e = .returned (.tuple #[.int .i64 x, .int .i64 r]) ∧ ptP C B ls lv key x r ∧ Ext w w' := by
  obtain ⟨w0, hw0⟩ : ∃ w0, w.alloc (.cells #[.int .i64 lv, .int .u64 key] 39) = w0 := ⟨_, rfl⟩
  have hz0 : w0.heap[w.heap.size]? = some (.cells #[.int .i64 lv, .int .u64 key] 39 (0, 0)) := by rw [← hw0]; exact heap_at _ _ rfl
  have hE0 : Ext w w0 := by rw [← hw0]; exact Ext.alloc' _ _
  have h' := h.ext hE0
  obtain ⟨cap, hex, hcap⟩ := h'.ex
  have c5 := (cell_of hex 5).trans rfl
  have hls := lt_of hex
  have p0 := (cell_of hz0 0).trans rfl
  have p1 := (cell_of hz0 1).trans rfl
  have pl := lt_of hz0
  have hbd : B ≤ 59 := by have := h.hB; have := h.ok.b2; omega
  have H := Lib.hid h'
  clear hex h' h hz0
  by_cases hneg : lv < 0
  · have hn' := decide_eq_true hneg
    go_enter Tryz.func19, Tryz.ntmps19
    go_upto_region 1 with (fail)
    try rw [hw0]
    go_wp2_with fail
    have hC0 := af_drew w0
    refine pi_start (fun w' => ∃ z : After w0, w' = z.w) [] (by kernel_rfl) ?_
    refine pi_t 0 rfl (by kernel_rfl) (by kernel_rfl) (fun _ _ _ _ h => h) (fun K hK => ?_)
    go_big_quiet_op
    refine hK _ ?_
    clear hK K
    refine pi_c 1 (by assumption) rfl (by kernel_rfl) (by kernel_rfl) (fun _ _ _ _ h => h) (fun K hK => ?_)
    go_big_quiet_op
    refine hK _ ?_
    clear hK K
    refine pi_t 2 rfl (by kernel_rfl) (by kernel_rfl) (fun _ _ _ _ h => h) (fun K hK => ?_)
    go_big_quiet_op
    refine hK _ ?_
    clear hK K
    refine pi_t 3 rfl (by kernel_rfl) (by kernel_rfl) (fun _ _ _ _ h => h) (fun K hK => ?_)
    go_big_quiet_op
    refine hK _ ?_
    clear hK K
    refine pi_no 4 rfl (by kernel_rfl) (by kernel_rfl) (fun _ _ _ _ h => h) ?_
    simp only [Act.put, List.setIfInBounds_toArray, List.set_cons_zero, List.set_cons_succ]
    refine pi_no 5 rfl (by kernel_rfl) (by kernel_rfl) (fun _ _ _ _ h => h) ?_
    simp only [Act.put, List.setIfInBounds_toArray, List.set_cons_zero, List.set_cons_succ]
    refine pi_no 6 rfl (by kernel_rfl) (by kernel_rfl) (fun _ _ _ _ h => h) ?_
    simp only [Act.put, List.setIfInBounds_toArray, List.set_cons_zero, List.set_cons_succ]
    refine pi_no 7 rfl (by kernel_rfl) (by kernel_rfl) (fun _ _ _ _ h => h) ?_
    simp only [Act.put, List.setIfInBounds_toArray, List.set_cons_zero, List.set_cons_succ]
    refine pi_no 8 rfl (by kernel_rfl) (by kernel_rfl) (fun _ _ _ _ h => h) ?_
    simp only [Act.put, List.setIfInBounds_toArray, List.set_cons_zero, List.set_cons_succ]
    refine pi_no 9 rfl (by kernel_rfl) (by kernel_rfl) (fun _ _ _ _ h => h) ?_
    simp only [Act.put, List.setIfInBounds_toArray, List.set_cons_zero, List.set_cons_succ]
    refine pi_no 10 rfl (by kernel_rfl) (by kernel_rfl) (fun _ _ _ _ h => h) ?_
    simp only [Act.put, List.setIfInBounds_toArray, List.set_cons_zero, List.set_cons_succ]
    refine pi_no 11 rfl (by kernel_rfl) (by kernel_rfl) (fun _ _ _ _ h => h) ?_
    simp only [Act.put, List.setIfInBounds_toArray, List.set_cons_zero, List.set_cons_succ]
    refine pi_t 12 rfl (by kernel_rfl) (by kernel_rfl) (fun _ _ _ _ h => h) (fun K hK => ?_)
    go_big_quiet_op
    refine hK _ ?_
    clear hK K
    refine pi_end (by kernel_rfl) ?_
    go_wp2
    go_ret2
    exact ⟨0, 2, rfl, .inl ⟨.inl hneg, rfl, rfl⟩, hE0.drewR⟩
  · have hn' := decide_eq_false hneg
    obtain ⟨n, rfl⟩ : ∃ n : Nat, lv = n := ⟨lv.toNat, by omega⟩
    by_cases hbig : n ≤ B
    · have hg' : decide ((B : Int) + 1 ≤ n) = false := decide_eq_false (by omega)
      have hlev := H.out.lev n hbig
      have ck := H.out.cell hbig
      have ltt := H.out.ltt
      have HP := Lib.hid (fun W' (hE : Ext w0 W') => RLPoint_c (L n) C n (ls n) key W' (hlev.ext hE) hk)
      clear hlev hneg
      go_enter Tryz.func19, Tryz.ntmps19
      go_upto_region 1 with (fail)
      try rw [hw0]
      go_wp2_with fail
      have hC0 := af_drew w0
      refine pi_start (fun w' => ∃ z : After w0, w' = z.w) [] (by kernel_rfl) ?_
      refine pi_t 0 rfl (by kernel_rfl) (by kernel_rfl) (fun _ _ _ _ h => h) (fun K hK => ?_)
      go_big_quiet_op
      refine hK _ ?_
      clear hK K
      refine pi_c 1 (by assumption) rfl (by kernel_rfl) (by kernel_rfl) (fun _ _ _ _ h => h) (fun K hK => ?_)
      go_big_quiet_op
      refine hK _ ?_
      clear hK K
      refine pi_t 2 rfl (by kernel_rfl) (by kernel_rfl) (fun _ _ _ _ h => h) (fun K hK => ?_)
      go_big_quiet_op
      refine hK _ ?_
      clear hK K
      refine pi_t 3 rfl (by kernel_rfl) (by kernel_rfl) (fun _ _ _ _ h => h) (fun K hK => ?_)
      go_big_quiet_op
      refine hK _ ?_
      clear hK K
      refine pi_t 4 rfl (by kernel_rfl) (by kernel_rfl) (fun _ _ _ _ h => h) (fun K hK => ?_)
      go_big_quiet_op
      refine hK _ ?_
      clear hK K
      refine pi_t 6 rfl (by kernel_rfl) (by kernel_rfl) (fun _ _ _ _ h => h) (fun K hK => ?_)
      go_big_quiet_op
      refine hK _ ?_
      clear hK K
      refine pi_t 7 rfl (by kernel_rfl) (by kernel_rfl) (fun _ _ _ _ h => h) (fun K hK => ?_)
      go_big_quiet_op
      refine hK _ ?_
      clear hK K
      refine pi_t 8 rfl (by kernel_rfl) (by kernel_rfl) (fun _ _ _ _ h => h) (fun K hK => ?_)
      go_big_quiet_op
      refine hK _ ?_
      clear hK K
      refine pi_c 5 (by assumption) rfl (by kernel_rfl) (by kernel_rfl) (fun _ _ _ _ h => h) (fun K hK => ?_)
      go_big_quiet_op
      refine hK _ ?_
      clear hK K
      refine pi_c 9 (by assumption) rfl (by kernel_rfl) (by kernel_rfl) (fun _ _ _ _ h => h) (fun K hK => ?_)
      go_big_quiet_op
      refine hK _ ?_
      clear hK K
      refine pi_t 10 rfl (by kernel_rfl) (by kernel_rfl) (fun _ _ _ _ h => h) (fun K hK => ?_)
      go_big_quiet_op
      refine hK _ ?_
      clear hK K
      refine pi_t 11 rfl (by kernel_rfl) (by kernel_rfl) (fun _ _ _ _ h => h) (fun K hK => ?_)
      go_big_quiet_op
      refine hK _ ?_
      clear hK K
      refine pi_t 12 rfl (by kernel_rfl) (by kernel_rfl) (fun _ _ _ _ h => h) (fun K hK => ?_)
      go_big_quiet_op
      refine hK _ ?_
      clear hK K
      refine pi_end (by kernel_rfl) ?_
      go_wp2_with fail
      have hC0 : ∃ z : After w0, w0.drew.drew = z.w := ⟨⟨_, (Ext.refl w0).drewR.drewR⟩, rfl⟩
      refine pi_start (fun w' => ∃ z : After w0, w' = z.w) [] (by kernel_rfl) ?_
      refine pi_t 0 rfl (by kernel_rfl) (by kernel_rfl) (fun _ _ _ _ h => h) (fun K hK => ?_)
      go_big_quiet_op
      refine hK _ ?_
      clear hK K
      refine pi_t 1 rfl (by kernel_rfl) (by kernel_rfl) (fun _ _ _ _ h => h) (fun K hK => ?_)
      go_big_quiet_op
      refine hK _ ?_
      clear hK K
      refine pi_t 2 rfl (by kernel_rfl) (by kernel_rfl) (fun _ _ _ _ h => h) (fun K hK => ?_)
      go_big_quiet_op
      refine hK _ ?_
      clear hK K
      refine pi_t 4 rfl (by kernel_rfl) (by kernel_rfl) (fun _ _ _ _ h => h) (fun K hK => ?_)
      go_big_quiet_op
      refine hK _ ?_
      clear hK K
      refine pi_t 8 rfl (by kernel_rfl) (by kernel_rfl) (fun _ _ _ _ h => h) (fun K hK => ?_)
      go_big_quiet_op
      refine hK _ ?_
      clear hK K
      refine pi_c 3 (by assumption) rfl (by kernel_rfl) (by kernel_rfl) (fun _ _ _ _ h => h) (fun K hK => ?_)
      go_big_quiet_op
      refine hK _ ?_
      clear hK K
      refine pi_c 5 (by assumption) rfl (by kernel_rfl) (by kernel_rfl) (fun _ _ _ _ h => h) (fun K hK => ?_)
      go_big_quiet_op
      refine hK _ ?_
      clear hK K
      refine pi_t 6 rfl (by kernel_rfl) (by kernel_rfl) (fun _ _ _ _ h => h) (fun K hK => ?_)
      go_big_quiet_op
      refine hK _ ?_
      clear hK K
      refine pi_c 7 (by assumption) rfl (by kernel_rfl) (by kernel_rfl) (fun _ _ _ _ h => h) (fun K hK => ?_)
      go_big_quiet_op
      refine hK _ ?_
      clear hK K
      refine pi_c 9 (by assumption) rfl (by kernel_rfl) (by kernel_rfl) (fun _ _ _ _ h => h) (fun K hK => ?_)
      go_big_quiet_op
      refine hK _ ?_
      clear hK K
      refine pi_l 10 rfl (by kernel_rfl) (fun K hK => ?_)
      go_wp2_with (go_at_call 48; refine (HP.out _ (Ext.refl w0).drewR.drewR).mono ?_; rintro e w1 ⟨x, r, rfl, hp, hx1⟩)
      have hE1 : Ext w0 w1 := Ext.trans' (Ext.refl w0).drewR.drewR hx1
      refine hK _ _ (fun _ h => af_step h hx1) ?_
      clear hK K
      refine pi_t 11 rfl (by kernel_rfl) (by kernel_rfl) (fun _ _ _ _ h => h) (fun K hK => ?_)
      go_big_quiet_op
      refine hK _ ?_
      clear hK K
      refine pi_t 12 rfl (by kernel_rfl) (by kernel_rfl) (fun _ _ _ _ h => h) (fun K hK => ?_)
      go_big_quiet_op
      refine hK _ ?_
      clear hK K
      refine pi_t 13 rfl (by kernel_rfl) (by kernel_rfl) (fun _ _ _ _ h => h) (fun K hK => ?_)
      go_big_quiet_op
      refine hK _ ?_
      clear hK K
      refine pi_t 14 rfl (by kernel_rfl) (by kernel_rfl) (fun _ _ _ _ h => h) (fun K hK => ?_)
      go_big_quiet_op
      refine hK _ ?_
      clear hK K
      refine pi_end (by kernel_rfl) ?_
      have HPT := Lib.hid hp
      clear hp
      go_wp2
      go_ret2
      exact ⟨x, r, rfl, .inr ⟨n, rfl, hbig, HPT.out⟩, hE0.trans' hE1⟩
    · have hg' : decide ((B : Int) + 1 ≤ n) = true := decide_eq_true (by omega)
      go_enter Tryz.func19, Tryz.ntmps19
      go_upto_region 1 with (fail)
      try rw [hw0]
      go_wp2_with fail
      have hC0 := af_drew w0
      refine pi_start (fun w' => ∃ z : After w0, w' = z.w) [] (by kernel_rfl) ?_
      refine pi_t 0 rfl (by kernel_rfl) (by kernel_rfl) (fun _ _ _ _ h => h) (fun K hK => ?_)
      go_big_quiet_op
      refine hK _ ?_
      clear hK K
      refine pi_c 1 (by assumption) rfl (by kernel_rfl) (by kernel_rfl) (fun _ _ _ _ h => h) (fun K hK => ?_)
      go_big_quiet_op
      refine hK _ ?_
      clear hK K
      refine pi_t 2 rfl (by kernel_rfl) (by kernel_rfl) (fun _ _ _ _ h => h) (fun K hK => ?_)
      go_big_quiet_op
      refine hK _ ?_
      clear hK K
      refine pi_t 3 rfl (by kernel_rfl) (by kernel_rfl) (fun _ _ _ _ h => h) (fun K hK => ?_)
      go_big_quiet_op
      refine hK _ ?_
      clear hK K
      refine pi_t 4 rfl (by kernel_rfl) (by kernel_rfl) (fun _ _ _ _ h => h) (fun K hK => ?_)
      go_big_quiet_op
      refine hK _ ?_
      clear hK K
      refine pi_t 6 rfl (by kernel_rfl) (by kernel_rfl) (fun _ _ _ _ h => h) (fun K hK => ?_)
      go_big_quiet_op
      refine hK _ ?_
      clear hK K
      refine pi_t 7 rfl (by kernel_rfl) (by kernel_rfl) (fun _ _ _ _ h => h) (fun K hK => ?_)
      go_big_quiet_op
      refine hK _ ?_
      clear hK K
      refine pi_t 8 rfl (by kernel_rfl) (by kernel_rfl) (fun _ _ _ _ h => h) (fun K hK => ?_)
      go_big_quiet_op
      refine hK _ ?_
      clear hK K
      refine pi_c 5 (by assumption) rfl (by kernel_rfl) (by kernel_rfl) (fun _ _ _ _ h => h) (fun K hK => ?_)
      go_big_quiet_op
      refine hK _ ?_
      clear hK K
      refine pi_c 9 (by assumption) rfl (by kernel_rfl) (by kernel_rfl) (fun _ _ _ _ h => h) (fun K hK => ?_)
      go_big_quiet_op
      refine hK _ ?_
      clear hK K
      refine pi_t 10 rfl (by kernel_rfl) (by kernel_rfl) (fun _ _ _ _ h => h) (fun K hK => ?_)
      go_big_quiet_op
      refine hK _ ?_
      clear hK K
      refine pi_t 11 rfl (by kernel_rfl) (by kernel_rfl) (fun _ _ _ _ h => h) (fun K hK => ?_)
      go_big_quiet_op
      refine hK _ ?_
      clear hK K
      refine pi_t 12 rfl (by kernel_rfl) (by kernel_rfl) (fun _ _ _ _ h => h) (fun K hK => ?_)
      go_big_quiet_op
      refine hK _ ?_
      clear hK K
      refine pi_end (by kernel_rfl) ?_
      go_wp2
      go_ret2
      exact ⟨0, 2, rfl, .inl ⟨.inr (by omega), rfl, rfl⟩, hE0.drewR⟩
end Go.Proofs.YteoblkcbemeamaaGreat

/- gaugerref02.Sum, walked. -/
namespace Go.Proofs.YteoblkcbemeamaaGreat
set_option linter.unusedVariables false
open Go.RowKit
theorem lsum_big {l : List Int} (h : ∀ x ∈ l, I64 x) (hl : l.length ≤ 1000000) : -730750818665451459101842416358141509827966271488 ≤ lsum l ∧ lsum l < 730750818665451459101842416358141509827966271488 := by
  have h2 := lsum_bd (l := l) (B := 9223372036854775808) (by omega) (fun x hx => by have h3 := h x hx; unfold I64 at h3; omega)
  omega
set_option maxRecDepth 20000 in
set_option maxHeartbeats 8000000 in
theorem RSum_c (l : List Int) (v : Value) (w : World) (h : IntsAt w v l) (hI : ∀ x ∈ l, I64 x) (hl : l.length ≤ 1000000) :
    Calls Tryz.prog 93 #[v] w fun e w' => e = .returned (.tuple #[.int .i64 (fitN (lsum l)), .bool (fitB (lsum l))]) ∧ Ext w w' := by
  obtain ⟨vp, vc, rfl⟩ := h.sl
  obtain ⟨n, hN⟩ : ∃ n, l.length = n := ⟨_, rfl⟩
  have HN := Lib.hid hN
  have H := Lib.hid h
  have HB := Lib.hid (lsum_big hI hl)
  rw [hN] at hl ⊢
  clear h hN
  go_enter Tryz.func93, Tryz.ntmps93
  go_wp2_with fail
  go_loopw [5] (fun u wr => ∃ (k : Nat) (s : Int), k ≤ n ∧ u = .int .i64 k ∧ s = lsum (l.take k) ∧ Ext w wr ∧ LongAt wr w.heap.size (dg s)) (fun u _ => n - (intOf u).toNat)
  case atStart =>
    refine ⟨0, 0, Nat.zero_le _, rfl, rfl, Ext.alloc' _ _, ?_⟩
    unfold LongAt
    rw [zlong]
    exact heap_at _ _ rfl
  case round =>
    obtain ⟨k, s, hk, rfl, hs, hx, hg⟩ := hrel
    have hg' := hg
    unfold LongAt at hg'
    rw [fill10] at hg'
    have x0 := (cell_of hg' 0).trans rfl
    have x1 := (cell_of hg' 1).trans rfl
    have x2 := (cell_of hg' 2).trans rfl
    have x3 := (cell_of hg' 3).trans rfl
    have x4 := (cell_of hg' 4).trans rfl
    have x5 := (cell_of hg' 5).trans rfl
    have x6 := (cell_of hg' 6).trans rfl
    have x7 := (cell_of hg' 7).trans rfl
    have x8 := (cell_of hg' 8).trans rfl
    have x9 := (cell_of hg' 9).trans rfl
    have l1 := lt_of hg'
    have HG1 := Lib.hid hg'
    have HS := Lib.hid hs
    clear hg hs
    by_cases hgo : k < n
    · obtain ⟨ga, oa, rfl, hga, d1⟩ := H.out.one (k := k) (by rw [HN.out]; exact hgo)
      have e1 := ((bcell hx).1 ga _ hga).trans d1
      have la : ga < wr.heap.size := Nat.lt_of_lt_of_le hga hx.size
      have ia := hI _ (getD_mem (l := l) (k := k) (by rw [HN.out]; exact hgo))
      have hsn : s + l.getD k 0 = lsum (l.take (k + 1)) := by rw [lsum_snoc (by rw [HN.out]; exact hgo), ← HS.out]
      have HSN := Lib.hid hsn
      have hP : ∀ w' : World, Calls Tryz.prog 98 #[.agg #[.int .i64 (dg s 0), .int .i64 (dg s 1), .int .i64 (dg s 2), .int .i64 (dg s 3), .int .i64 (dg s 4), .int .i64 (dg s 5), .int .i64 (dg s 6), .int .i64 (dg s 7), .int .i64 (dg s 8), .int .i64 (dg s 9)], longV (l.getD k 0)] w' fun e w'' => e = .returned (longV (s + l.getD k 0)) ∧ Ext w' w'' := fun w' => LPlus_c s (l.getD k 0) w'
      have HP := Lib.hid hP
      clear hsn hP d1 hg'
      generalize l.getD k 0 = x at *
      go_wp2_with fail
      refine wp_region_after_tail 7 (by kernel_rfl) (by kernel_rfl) ?_
      simp only [List.take_succ_cons, List.take_zero, List.drop_succ_cons, List.drop_zero]
      repeat (go_big_quiet_step ((first | (go_at_call 99; exact quiet_after (OfInt_c _ (by assumption) _)) | (go_at_call 98; exact quiet_after (HP.out _)))))
      refine wpQuiet_nil ?_
      rintro _ ⟨xx, rfl⟩
      obtain ⟨w4, hb4⟩ := xx
      try dsimp only
      have hq1 := hb4.keep HG1.out
      have hE4 := hx.trans' hb4
      have z0 := (cell_of hq1 0).trans rfl
      have f0 := frozen_of hq1 0
      have z1 := (cell_of hq1 1).trans rfl
      have f1 := frozen_of hq1 1
      have z2 := (cell_of hq1 2).trans rfl
      have f2 := frozen_of hq1 2
      have z3 := (cell_of hq1 3).trans rfl
      have f3 := frozen_of hq1 3
      have z4 := (cell_of hq1 4).trans rfl
      have f4 := frozen_of hq1 4
      have z5 := (cell_of hq1 5).trans rfl
      have f5 := frozen_of hq1 5
      have z6 := (cell_of hq1 6).trans rfl
      have f6 := frozen_of hq1 6
      have z7 := (cell_of hq1 7).trans rfl
      have f7 := frozen_of hq1 7
      have z8 := (cell_of hq1 8).trans rfl
      have f8 := frozen_of hq1 8
      have z9 := (cell_of hq1 9).trans rfl
      have f9 := frozen_of hq1 9
      have HQ1 := Lib.hid hq1
      have l4 := lt_of hq1
      clear hq1 x0 x1 x2 x3 x4 x5 x6 x7 x8 x9
      unfold longV longA
      go_upto_region 4 with (fail)
      refine fin10b (Φ := fun W' => Code.wp _ _ _ _ W') HQ1.out hE4 (Nat.le_refl _) (fun W' hW hEW hO => ?_)
      go_wp2_with fail
      go_roundw
      case rel => exact ⟨k + 1, s + x, by omega, by go_num, HSN.out, hEW, by unfold LongAt; rw [fill10]; exact hW⟩
      case measure => simp [intOf]; omega
    · obtain rfl : k = n := by omega
      have hst : s = lsum l := by rw [HS.out, ← HN.out, List.take_length]
      obtain ⟨fn, hfn⟩ : ∃ fn, fitN s = fn := ⟨_, rfl⟩
      obtain ⟨fb, hfb⟩ : ∃ fb, fitB s = fb := ⟨_, rfl⟩
      have hF : ∀ w' : World, Calls Tryz.prog 97 #[.agg #[.int .i64 (dg s 0), .int .i64 (dg s 1), .int .i64 (dg s 2), .int .i64 (dg s 3), .int .i64 (dg s 4), .int .i64 (dg s 5), .int .i64 (dg s 6), .int .i64 (dg s 7), .int .i64 (dg s 8), .int .i64 (dg s 9)]] w' fun e w'' => e = .returned (.tuple #[.int .i64 fn, .bool fb]) ∧ Ext w' w'' := fun w' => by
        have h := LInt_c s (by rw [hst]; exact HB.out.1) (by rw [hst]; exact HB.out.2) w'
        rw [hfn, hfb] at h
        exact h
      have HF := Lib.hid hF
      have HR := Lib.hid (And.intro hst (And.intro hfn hfb))
      clear hF hg' hst hfn hfb HS
      go_wp2_with fail
      refine Calls.mono (HF.out _) ?_
      rintro e w5 ⟨rfl, hx5⟩
      go_wp2
      go_ret2
      exact ⟨by rw [← HR.out.1, HR.out.2.1, HR.out.2.2]; rfl, hx.trans' hx5⟩
end Go.Proofs.YteoblkcbemeamaaGreat

/- gaugerref16: Parts, Range, walked. -/
namespace Go.Proofs.YteoblkcbemeamaaGreat
set_option linter.unusedVariables false
open Go.RowKit
def RPartsPost (w : World) (B : Nat) (pt : Nat → Int → Int) (lo hi : Int) (e : Ending) (w' : World) : Prop :=
  (hi < lo ∧ (∃ v, e = .returned (.tuple #[v, .int .i64 1]) ∧ w'.ownsRow w.heap.size 2 1 v 0 []) ∧ Ext w w') ∨
  ((lo ≤ hi ∧ 2 ^ B ≤ hi) ∧ (∃ v, e = .returned (.tuple #[v, .int .i64 2]) ∧ w'.ownsRow w.heap.size 2 1 v 0 []) ∧ Ext w w') ∨
  ((lo ≤ hi ∧ hi < 2 ^ B) ∧ ∃ v, e = .returned (.tuple #[v, .int .i64 0]) ∧ w'.ownsRow w.heap.size 2 1 v (cvV pt B lo hi).length (ints (cvV pt B lo hi)) ∧ Ext w w')
theorem cv_snoc {pt : Nat → Int → Int} {B : Nat} {lo hi : Int} {k : Nat} {ps : List (Nat × Int)} (hps : covL B 0 lo hi = ps) (hk : k < ps.length) {pre : List Int} (hp : pre = (cvV pt B lo hi).take k) :
    pre ++ [pt (ps.getD k (0, 0)).1 (ps.getD k (0, 0)).2] = (cvV pt B lo hi).take (k + 1) := by
  unfold cvV at hp ⊢
  rw [hps] at hp ⊢
  have hk2 : k < (ps.map fun p => pt p.1 p.2).length := by rw [List.length_map]; exact hk
  rw [List.take_succ_eq_append_getElem hk2, hp]
  congr 2
  rw [List.getElem_map]
  have e : ps.getD k (0, 0) = ps[k] := by simp [List.getD, List.getElem?_eq_getElem hk]
  rw [e]
theorem pcs_cells {w : World} {base : Nat} {p : Option Addr} {n c : Nat} {ps : List (Nat × Int)} (h : w.ownsRow base 39 2 (.slice p n c) n (pcV ps)) {k : Nat} (hk : k < ps.length) :
    ∃ g, p = some ⟨g, 0, none⟩ ∧ base ≤ g ∧ g < w.heap.size ∧ w.cell? ⟨g, k * 2, none⟩ = some (.int .i64 ((ps.getD k (0, 0)).1 : Int)) ∧ w.cell? ⟨g, k * 2 + 1, none⟩ = some (.int .u64 (ps.getD k (0, 0)).2) := by
  obtain ⟨h1, h2⟩ := h
  rw [pcV_len] at h1
  rcases h2 with ⟨_, h3⟩ | ⟨g, cap, cur, hv, hb, hh, hc, _, hs, ht⟩
  · omega
  · obtain ⟨rfl, _⟩ := Value.slice.inj hv
    obtain ⟨a1, a2⟩ := pcV_at hk
    rw [← ht] at a1 a2
    rw [List.getElem?_take_of_lt (by omega)] at a1 a2
    simp only [Array.getElem?_toList] at a1 a2
    refine ⟨g, rfl, hb, lt_of hh, ?_, ?_⟩
    · rw [cell_of hh]; exact a1
    · rw [cell_of hh]; exact a2
/-- The pieces' own block is still what it was. -/
def KeptP (w1 wr : World) (pp : Option Addr) (u : Value) : Prop := ∀ g, pp = some ⟨g, 0, none⟩ → wr.heap[g]? = w1.heap[g]? ∧ g < wr.heap.size ∧ u.ownBlock ≠ some g
set_option maxRecDepth 20000 in
set_option maxHeartbeats 8000000 in
theorem RParts_c (s t : Nat) (C : Cfg) (B : Nat) (L : Nat → RLev) (ls : Nat → List Int) (w : World) (h : RKAt w s t C B L ls) (pt : Nat → Int → Int) (hU : Uniq C B ls pt) (lo hi : Int) (hlo : U64 lo) (hhi : U64 hi) :
    Calls Tryz.prog 34 #[.pointer (some ⟨s, 0, none⟩), .int .u64 lo, .int .u64 hi] w (RPartsPost w B pt lo hi) := by
  have hB := h.hB
  have hb1 := h.ok.b1
  have hb2 := h.ok.b2
  obtain ⟨w0, hw0⟩ : ∃ w0, w.alloc (.cells #[] 2) = w0 := ⟨_, rfl⟩
  have ho0 : w0.ownsRow w.heap.size 2 1 (.slice (some ⟨w.heap.size, 0, none⟩) 0 0) ([] : List Int).length (ints []) := by rw [← hw0]; exact ⟨rfl, .inr ⟨w.heap.size, 0, #[], rfl, Nat.le_refl _, heap_at _ _ rfl, Nat.le_refl _, Nat.zero_le _, rfl, rfl⟩⟩
  have hE0 : Ext w w0 := by rw [← hw0]; exact Ext.alloc' _ _
  have hz0 : w0.heap.size = w.heap.size + 1 := by rw [← hw0]; exact size_alloc _ _
  have HO0 := Lib.hid ho0
  have HZ0 := Lib.hid hz0
  have H := Lib.hid h
  obtain ⟨hlo0, hlo1⟩ := hlo
  obtain ⟨hhi0, hhi1⟩ := hhi
  clear ho0 hz0 h
  by_cases h1 : hi < lo
  · go_enter Tryz.func34, Tryz.ntmps34
    go_upto_region 2 with (fail)
    try rw [hw0]
    go_wp2
    go_ret2
    exact .inl ⟨h1, ⟨_, rfl, HO0.out⟩, hE0⟩
  · have H1 := Lib.hid (show lo ≤ hi by omega)
    obtain ⟨cap, hex, hcap⟩ := (H.out.ext hE0).ex
    have c0 := (cell_of hex 0).trans (show _ = some (Value.int .i64 B) by rw [← hB]; rfl)
    have hls := lt_of hex
    have HCV := Lib.hid (RCover_c B (by omega) (by omega) lo hi ⟨hlo0, hlo1⟩ ⟨hhi0, hhi1⟩ w0)
    have HBB := Lib.hid (And.intro hb1 (And.intro hb2 hB))
    clear hex hb1 hb2 hB
    go_enter Tryz.func34, Tryz.ntmps34
    go_upto_region 2 with (fail)
    try rw [hw0]
    go_wp2_with fail
    refine Calls.mono HCV.out ?_
    rintro e w1 (⟨hc, v, rfl, hx⟩ | ⟨hc, v, rfl, ho, hx⟩)
    · have h2 : 2 ^ B ≤ hi := by have := H1.out; omega
      have H2 := Lib.hid h2
      have HX := Lib.hid hx
      clear h2 hc hx h1 c0 hls
      go_wp2
      go_ret2
      exact .inr (.inl ⟨⟨H1.out, H2.out⟩, ⟨_, rfl, own_keepB HO0.out (fun k hk => HX.out.block k (own_lt HO0.out hk))⟩, hE0.trans' HX.out⟩)
    · obtain ⟨ps, hps⟩ : ∃ ps, covL B 0 lo hi = ps := ⟨_, rfl⟩
      rw [hps] at ho
      have hbd := cov_bd B 0 lo hi hlo0 hc.1 hc.2
      have hlv := cov_lev B 0 lo hi
      have hlen := cov_len B 0 lo hi
      rw [hps] at hbd hlv hlen
      obtain ⟨pp, pc, rfl⟩ := own_sl ho
      have HO := Lib.hid ho
      have HBD := Lib.hid hbd
      have HLV := Lib.hid hlv
      have HLEN := Lib.hid hlen
      have HPS := Lib.hid hps
      have HC := Lib.hid hc
      have hx01 := hx
      have hE1 := hE0.trans' hx
      have hkp0 : KeptP w1 w1 pp (.slice (some ⟨w.heap.size, 0, none⟩) 0 0) := fun g hg => by
        subst hg
        have hb := own_blk HO.out (k := g) rfl
        exact ⟨rfl, own_lt HO.out rfl, fun e => by have h3 : w.heap.size = g := Option.some.inj e; have := HZ0.out; omega⟩
      have hor := own_keepB HO0.out (fun k hk => hx.block k (own_lt HO0.out hk))
      have HKP0 := Lib.hid hkp0
      have HOR := Lib.hid hor
      clear ho hbd hlv hlen hps hc hx hx01 hkp0 hor c0 hls
      generalize hnn : ps.length = np at *
      have HNP := Lib.hid hnn
      have hnp : np ≤ 200 := by have := HLEN.out; have := HBB.out.2.1; have := HBB.out.2.2; omega
      clear hnn
      go_wp2_with fail
      go_loopw [8, 11] (fun u8 u11 wr => ∃ (k : Nat) (pre : List Int), k ≤ np ∧ u11 = .int .i64 k ∧ pre.length = k ∧ pre = (cvV pt B lo hi).take k ∧ wr.ownsRow w.heap.size 2 1 u8 pre.length (ints pre) ∧ KeptP w1 wr pp u8 ∧ Ext w wr) (fun _ u11 _ => np - (intOf u11).toNat)
      case atStart => exact ⟨0, [], Nat.zero_le _, rfl, rfl, rfl, HOR.out, HKP0.out, hE1⟩
      case round =>
        clear hE1 HOR HKP0
        obtain ⟨k, pre, hk, rfl, hpl, hpre, hown, hkp, hE⟩ := hrel
        obtain ⟨pv, cv, rfl⟩ := own_sl hown
        have HPRE := Lib.hid hpre
        have HOWN := Lib.hid hown
        have HKP := Lib.hid hkp
        have HPL := Lib.hid hpl
        clear hpre hown hkp
        subst hpl
        by_cases hgo : pre.length < np
        · obtain ⟨g, rfl, hbg, hgl, d1', d2'⟩ := pcs_cells HO.out (k := pre.length) (by rw [HNP.out]; exact hgo)
          obtain ⟨hgk, hgs, hgn⟩ := HKP.out g rfl
          have d1 := (World.cell?_of_block (a := ⟨g, pre.length * 2, none⟩) hgk).trans d1'
          have d2 := (World.cell?_of_block (a := ⟨g, pre.length * 2 + 1, none⟩) hgk).trans d2'
          have hmem : ps.getD pre.length (0, 0) ∈ ps := by simp [List.getD, List.getElem?_eq_getElem (show pre.length < ps.length by rw [HNP.out]; exact hgo)]
          have hq1 := HBD.out _ hmem
          have hq2 := HLV.out _ hmem
          have hsn := cv_snoc HPS.out (k := pre.length) (by rw [HNP.out]; exact hgo) HPRE.out
          clear d1' d2' hmem
          generalize ps.getD pre.length (0, 0) = q at *
          obtain ⟨n, i⟩ := q
          have hn : n ≤ B := by have := hq2.2; simp only at this; omega
          have hkey : i < keys C n := by
            have h3 := hq1.2
            simp only at h3
            unfold keys
            rw [show (C.bits - (n : Int)).toNat = 0 + B - n by have := HBB.out.2.2; omega]
            exact h3
          have hi0 : 0 ≤ i := hq1.1
          have hi1 : i < 18446744073709551616 := by
            have := keys_bd C H.out.ok n (Int.natCast_nonneg n)
            omega
          have HSN := Lib.hid hsn
          have HGN := Lib.hid (And.intro hgk (And.intro hgs hgn))
          have hcall := RKPoint_c s t C B L ls n i (by unfold I64; have := HBB.out.2.1; have := HBB.out.2.2; omega) ⟨hi0, hi1⟩ wr (H.out.ext hE)
          have HCALL := Lib.hid hcall
          have HUN := Lib.hid (fun x (hx : lvPt C n (ls n) i x) => hU n i x hn hi0 hkey hx)
          clear hq1 hq2 hsn hgk hgn hcall
          go_wp2_with fail
          refine Calls.mono HCALL.out ?_
          rintro e w5 ⟨x, r, rfl, hp, hx5⟩
          have hxp : x = pt n i := by
            rcases hp with ⟨hbad, _⟩ | ⟨m, hm, _, hpa⟩
            · omega
            · obtain rfl : n = m := by omega
              rcases hpa with ⟨hbad, _⟩ | ⟨_, hl, _⟩
              · omega
              · exact HUN.out x hl
          rw [← hxp] at HSN
          have HX5 := Lib.hid hx5
          have ho5 := own_keepB HOWN.out (fun j hj => hx5.block j (own_lt HOWN.out hj))
          have HO5 := Lib.hid ho5
          have hE5 := hE.trans' hx5
          clear hp hxp hx5 ho5 HUN HCALL
          go_wp2_with (at_builtin; refine wpList_app1 w5 x pre _ w.heap.size 2 HO5.out 43 rfl _ _ rfl info_i64 Tryz.underlying43 (by rfl) (by rfl) ?a1 ?a2 ?_)
          case a1 => have := HPL.out; have := HLEN.out; have := HNP.out; have := HBB.out.2.1; have := HBB.out.2.2; omega
          case a2 => exact hE5.size
          intro v' w6 hw1 hw2 hw3
          have hE6 : Ext w w6 := ext_grown hE5 hw2 (fun j hj => own_blk HO5.out hj)
          have hkp6 : KeptP w1 w6 (some ⟨g, 0, none⟩) v' := fun g' hg' => by
            obtain rfl : g = g' := by have := Option.some.inj hg'; exact congrArg Addr.block this
            have hs5 := HX5.out.size
            have hgs := HGN.out.2.1
            refine ⟨(grown_old hw2 (by omega) (fun e => HGN.out.2.2 e.symm)).trans ((HX5.out.block g hgs).trans HGN.out.1), ?_, fun e => ?_⟩
            · have h6 := hw2.size
              rw [size_alloc] at h6
              omega
            · rcases hw3 with h3 | h3
              · exact HGN.out.2.2 (by rw [← h3]; exact e)
              · rw [h3] at e; have h7 : w5.heap.size + 1 = g := Option.some.inj e; omega
          obtain ⟨pv2, cv2, rfl⟩ := own_sl hw1
          have HW1 := Lib.hid hw1
          have HKP6 := Lib.hid hkp6
          clear hw1 hw2 hw3 hkp6
          go_wp2
          go_roundw
          case rel => exact ⟨pre.length + 1, pre ++ [x], by omega, by go_num, by rw [List.length_append]; rfl, HSN.out, by rw [List.length_append]; exact HW1.out, HKP6.out, hE6⟩
          case measure => simp [intOf]; omega
        · obtain hkn : pre.length = np := by omega
          have hfull : pre = cvV pt B lo hi := by
            rw [HPRE.out]
            refine List.take_of_length_le ?_
            unfold cvV
            rw [List.length_map, HPS.out, HNP.out, hkn]
            exact Nat.le_refl _
          have HFULL := Lib.hid hfull
          clear hfull
          go_wp2
          go_ret2
          exact .inr (.inr ⟨HC.out, _, rfl, by
            rw [← HFULL.out]
            have h := HOWN.out
            rw [hkn] at h ⊢
            exact h, hE⟩)
set_option maxRecDepth 20000 in
set_option maxHeartbeats 4000000 in
theorem RRange_c (s t : Nat) (C : Cfg) (B : Nat) (L : Nat → RLev) (ls : Nat → List Int) (w : World) (h : RKAt w s t C B L ls) (pt : Nat → Int → Int) (hU : Uniq C B ls pt) (hI : ∀ n i, I64 (pt n i)) (lo hi : Int) (hlo : U64 lo) (hhi : U64 hi) :
    Calls Tryz.prog 36 #[.pointer (some ⟨s, 0, none⟩), .int .u64 lo, .int .u64 hi] w (RangePost w B pt lo hi) := by
  have hlen : (cvV pt B lo hi).length ≤ 1000000 := by
    unfold cvV
    rw [List.length_map]
    have := cov_len B 0 lo hi
    have h2 := h.ok.b2
    have h3 := h.hB
    omega
  have hall : ∀ x ∈ cvV pt B lo hi, I64 x := by
    intro x hx
    unfold cvV at hx
    simp only [List.mem_map] at hx
    obtain ⟨p, _, rfl⟩ := hx
    exact hI _ _
  have HP := Lib.hid (RParts_c s t C B L ls w h pt hU lo hi hlo hhi)
  have HL := Lib.hid hlen
  have HA := Lib.hid hall
  clear h hlen hall
  go_enter Tryz.func36, Tryz.ntmps36
  go_wp2_with fail
  refine Calls.mono HP.out ?_
  rintro e w1 (⟨hc, ⟨v, rfl, _⟩, hx⟩ | ⟨hc, ⟨v, rfl, _⟩, hx⟩ | ⟨hc, v, rfl, ho, hx⟩)
  · have HC := Lib.hid hc
    clear hc
    go_wp2_with fail
    go_ret2
    exact ⟨.inl ⟨HC.out, rfl⟩, hx⟩
  · have HC := Lib.hid hc
    clear hc
    go_wp2_with fail
    go_ret2
    exact ⟨.inr (.inl ⟨HC.out, rfl⟩), hx⟩
  · have HC := Lib.hid hc
    have HI := Lib.hid (IntsAt.of_row ho)
    clear hc ho
    go_wp2_with fail
    refine Calls.mono (RSum_c _ v w1 HI.out HA.out HL.out) ?_
    rintro e w2 ⟨rfl, hx2⟩
    by_cases hT : I64 (lsum (cvV pt B lo hi))
    · rw [fitB_yes hT, fitN_yes hT]
      go_wp2_with fail
      go_ret2
      exact ⟨.inr (.inr (.inl ⟨HC.out, hT, rfl⟩)), hx.trans' hx2⟩
    · rw [fitB_no hT]
      go_wp2_with fail
      go_ret2
      exact ⟨.inr (.inr (.inr ⟨HC.out, hT, rfl⟩)), hx.trans' hx2⟩
end Go.Proofs.YteoblkcbemeamaaGreat

/- A stack of the program and one of the references, side by side. -/
namespace Go.Proofs.YteoblkcbemeamaaGreat
set_option linter.unusedVariables false
open Go.RowKit
/-- What an update leaves. -/
def nextK (C : Cfg) (B : Nat) (ls : Nat → List Int) (key d : Int) : Nat → List Int := bif decide (errK C B ls key d = 0) then updK C ls key d else ls
/-- A stack, and one of the references. -/
def KP (N : Nat) (w : World) (C : Cfg) (B s r : Nat) (ls ls' : Nat → List Int) : Prop :=
  ∃ g L t L2 z, KAt w s g C B L ls ∧ KLow z s g B L ∧ KFresh N B L ∧ RKAt w r t C B L2 ls' ∧ (∀ k, rkF r t C B L2 k → z ≤ k) ∧ N ≤ z ∧ z ≤ w.heap.size
noncomputable def ptU (C : Cfg) (ls : Nat → List Int) (n : Nat) (i : Int) : Int := by classical exact if h : ∃ x, I64 x ∧ lvPt C n (ls n) i x then h.choose else 0
theorem ptU_I (C : Cfg) (ls : Nat → List Int) (n : Nat) (i : Int) : I64 (ptU C ls n i) := by
  unfold ptU
  split
  · rename_i h; exact h.choose_spec.1
  · unfold I64; omega
def partR (B : Nat) (pt : Nat → Int → Int) (lo hi : Int) : List Int × Int := if hi < lo then ([], 1) else if 2 ^ B ≤ hi then ([], 2) else (cvV pt B lo hi, 0)
def rangR (B : Nat) (pt : Nat → Int → Int) (lo hi : Int) : Int × Int := if hi < lo then (0, 1) else if 2 ^ B ≤ hi then (0, 2) else (fitN (lsum (cvV pt B lo hi)), bif fitB (lsum (cvV pt B lo hi)) then 0 else 4)
theorem rang_of {w w' : World} {B : Nat} {pt : Nat → Int → Int} {lo hi : Int} {e : Ending} (h : RangePost w B pt lo hi e w') : e = .returned (.tuple #[.int .i64 (rangR B pt lo hi).1, .int .i64 (rangR B pt lo hi).2]) ∧ Ext w w' := by
  obtain ⟨h, hE⟩ := h
  refine ⟨?_, hE⟩
  unfold rangR
  rcases h with ⟨h1, rfl⟩ | ⟨⟨h1, h2⟩, rfl⟩ | ⟨⟨h1, h2⟩, h3, rfl⟩ | ⟨⟨h1, h2⟩, h3, rfl⟩
  · rw [if_pos h1]
  · rw [if_neg (by omega), if_pos h2]
  · rw [if_neg (by omega), if_neg (by omega), fitB_yes h3, fitN_yes h3]; rfl
  · rw [if_neg (by omega), if_neg (by omega), fitB_no h3, fitN, fitB_no h3]; rfl
section
variable {N : Nat} {w w' : World} {C : Cfg} {B s r : Nat} {ls ls' : Nat → List Int}
theorem KP.ext (h : KP N w C B s r ls ls') (he : Ext w w') : KP N w' C B s r ls ls' := by
  obtain ⟨g, L, t, L2, z, h1, h2, h3, h4, h5, h6, h7⟩ := h
  exact ⟨g, L, t, L2, z, h1.ext he, h2, h3, h4.ext he, h5, h6, Nat.le_trans h7 he.size⟩
theorem KP_upd (h : KP N w C B s r ls ls') (key d : Int) (hk : U64 key) (hd : I64 d) :
    Calls Tryz.prog 26 #[.pointer (some ⟨s, 0, none⟩), .int .u64 key, .int .i64 d] w fun e w' => e = .returned (.int .i64 (errK C B ls key d)) ∧ KP N w' C B s r (nextK C B ls key d) ls' ∧ Below N w w' := by
  obtain ⟨g, L, t, L2, z, h1, h2, h3, h4, h5, h6, h7⟩ := h
  refine (KUpdate_c s g C B L ls key d w h1 hd hk).mono ?_
  rintro e w' ⟨rfl, hK, hM⟩
  refine ⟨rfl, ⟨g, L, t, L2, z, hK, h2, h3, h4.keep (fun k hk => hM.block k (h4.lt hk) (fun hc => ?_)), h5, h6, Nat.le_trans h7 hM.size⟩, hM.below (Nat.le_trans h6 h7) (fun k hc => ?_)⟩
  · obtain ⟨n, hn, rfl⟩ := hc
    have := h2.lc n hn
    have := h5 _ hk
    omega
  · obtain ⟨n, hn, rfl⟩ := hc
    exact (h3 n hn).2.2
theorem KP_rupd (h : KP N w C B s r ls ls') (key d : Int) (hk : U64 key) (hd : I64 d) :
    Calls Tryz.prog 27 #[.pointer (some ⟨r, 0, none⟩), .int .u64 key, .int .i64 d] w fun e w' => e = .returned (.int .i64 (errK C B ls' key d)) ∧ KP N w' C B s r ls (nextK C B ls' key d) ∧ Below N w w' := by
  obtain ⟨g, L, t, L2, z, h1, h2, h3, h4, h5, h6, h7⟩ := h
  have hr : z ≤ r := h5 r (.inl rfl)
  refine (RKUpdate_c r t C B L2 ls' key d w h4 hk hd).mono ?_
  rintro e w' ⟨rfl, (⟨h0, t', L', hR, hF, hM⟩ | ⟨h0, hE⟩)⟩
  · have e : nextK C B ls' key d = updK C ls' key d := by unfold nextK; rw [decide_eq_true h0]; rfl
    rw [e]
    refine ⟨rfl, ⟨g, L, t', L', z, h1.keepN h2 (fun k hk hz => hM.block k hk (by omega)), h2, h3, hR, fun k hk => ?_, h6, Nat.le_trans h7 hM.size⟩, hM.below (Nat.le_trans h6 h7) (fun k hc => by omega)⟩
    rcases hF k hk with rfl | h
    · exact hr
    · omega
  · have e : nextK C B ls' key d = ls' := by unfold nextK; rw [decide_eq_false h0]; rfl
    rw [e]
    exact ⟨rfl, ⟨g, L, t, L2, z, h1.ext hE, h2, h3, h4.ext hE, h5, h6, Nat.le_trans h7 hE.size⟩, below_of hE (Nat.le_trans h6 h7)⟩
theorem ptU_uniq (h : KP N w C B s r ls ls') : Uniq C B ls' (ptU C ls') := by
  obtain ⟨g, L, t, L2, z, h1, h2, h3, h4, h5, h6, h7⟩ := h
  intro n i x hn h0 hi hx
  have hI : I64 x := ptA_I (r := 0) (.inr ⟨hi, hx, rfl⟩) (h4.lev n hn).fit
  have he : ∃ y, I64 y ∧ lvPt C n (ls' n) i y := ⟨x, hI, hx⟩
  unfold ptU
  rw [dif_pos he]
  exact lvPt_unique hx he.choose_spec.2
theorem KP_parts (h : KP N w C B s r ls ls) (lo hi : Int) (hlo : U64 lo) (hhi : U64 hi) :
    Calls Tryz.prog 33 #[.pointer (some ⟨s, 0, none⟩), .int .u64 lo, .int .u64 hi] w fun e w' => ∃ v, e = .returned (.tuple #[v, .int .i64 (partR B (ptU C ls) lo hi).2]) ∧ IntsAt w' v (partR B (ptU C ls) lo hi).1 ∧ Ext w w' := by
  have hU := ptU_uniq h
  obtain ⟨g, L, t, L2, z, h1, h2, h3, h4, h5, h6, h7⟩ := h
  refine (Parts_c s g C B L ls w h1 (ptU C ls) hU lo hi hlo hhi).mono ?_
  unfold partR
  rintro e w' (⟨a, rfl, hE⟩ | ⟨⟨a, b⟩, rfl, hE⟩ | ⟨⟨a, b⟩, v, rfl, ho, hE⟩)
  · rw [if_pos a]; exact ⟨_, rfl, .inl ⟨rfl, rfl⟩, hE⟩
  · rw [if_neg (by omega), if_pos b]; exact ⟨_, rfl, .inl ⟨rfl, rfl⟩, hE⟩
  · rw [if_neg (by omega), if_neg (by omega)]; exact ⟨v, rfl, IntsAt.of_row ho, hE⟩
theorem KP_rparts (h : KP N w C B s r ls ls) (lo hi : Int) (hlo : U64 lo) (hhi : U64 hi) :
    Calls Tryz.prog 34 #[.pointer (some ⟨r, 0, none⟩), .int .u64 lo, .int .u64 hi] w fun e w' => ∃ v, e = .returned (.tuple #[v, .int .i64 (partR B (ptU C ls) lo hi).2]) ∧ IntsAt w' v (partR B (ptU C ls) lo hi).1 ∧ Ext w w' := by
  have hU := ptU_uniq h
  obtain ⟨g, L, t, L2, z, h1, h2, h3, h4, h5, h6, h7⟩ := h
  refine (RParts_c r t C B L2 ls w h4 (ptU C ls) hU lo hi hlo hhi).mono ?_
  unfold partR
  rintro e w' (⟨a, ⟨v, rfl, ho⟩, hE⟩ | ⟨⟨a, b⟩, ⟨v, rfl, ho⟩, hE⟩ | ⟨⟨a, b⟩, v, rfl, ho, hE⟩)
  · rw [if_pos a]; exact ⟨v, rfl, IntsAt.of_row (xs := []) ho, hE⟩
  · rw [if_neg (by omega), if_pos b]; exact ⟨v, rfl, IntsAt.of_row (xs := []) ho, hE⟩
  · rw [if_neg (by omega), if_neg (by omega)]; exact ⟨v, rfl, IntsAt.of_row ho, hE⟩
theorem KP_range (h : KP N w C B s r ls ls) (lo hi : Int) (hlo : U64 lo) (hhi : U64 hi) :
    Calls Tryz.prog 35 #[.pointer (some ⟨s, 0, none⟩), .int .u64 lo, .int .u64 hi] w fun e w' => e = .returned (.tuple #[.int .i64 (rangR B (ptU C ls) lo hi).1, .int .i64 (rangR B (ptU C ls) lo hi).2]) ∧ Ext w w' := by
  have hU := ptU_uniq h
  obtain ⟨g, L, t, L2, z, h1, h2, h3, h4, h5, h6, h7⟩ := h
  exact (Range_c s g C B L ls w h1 (ptU C ls) hU (ptU_I C ls) lo hi hlo hhi).mono fun e w' h => rang_of h
theorem KP_rank (h : KP N w C B s r ls ls) (hi : Int) (hhi : U64 hi) :
    Calls Tryz.prog 37 #[.pointer (some ⟨s, 0, none⟩), .int .u64 hi] w fun e w' => e = .returned (.tuple #[.int .i64 (rangR B (ptU C ls) 0 hi).1, .int .i64 (rangR B (ptU C ls) 0 hi).2]) ∧ Ext w w' := by
  have hU := ptU_uniq h
  obtain ⟨g, L, t, L2, z, h1, h2, h3, h4, h5, h6, h7⟩ := h
  exact (Rank_c s g C B L ls w h1 (ptU C ls) hU (ptU_I C ls) hi hhi).mono fun e w' h => rang_of h
theorem KP_rrange (h : KP N w C B s r ls ls) (lo hi : Int) (hlo : U64 lo) (hhi : U64 hi) :
    Calls Tryz.prog 36 #[.pointer (some ⟨r, 0, none⟩), .int .u64 lo, .int .u64 hi] w fun e w' => e = .returned (.tuple #[.int .i64 (rangR B (ptU C ls) lo hi).1, .int .i64 (rangR B (ptU C ls) lo hi).2]) ∧ Ext w w' := by
  have hU := ptU_uniq h
  obtain ⟨g, L, t, L2, z, h1, h2, h3, h4, h5, h6, h7⟩ := h
  exact (RRange_c r t C B L2 ls w h4 (ptU C ls) hU (ptU_I C ls) lo hi hlo hhi).mono fun e w' h => rang_of h
theorem KP.rok (h : KP N w C B s r ls ls') : C.Ok ∧ C.bits = B := by
  obtain ⟨g, L, t, L2, z, h1, h2, h3, h4, h5, h6, h7⟩ := h
  exact ⟨h1.ok, h1.hB⟩
end
end Go.Proofs.YteoblkcbemeamaaGreat

/- gaugerlaw16.SpanTells, walked. -/
namespace Go.Proofs.YteoblkcbemeamaaGreat
set_option linter.unusedVariables false
open Go.RowKit
theorem cell_below {N : Nat} {w w' : World} (h : Below N w w') {b o : Nat} {v : Value} (hb : b < N) (hc : w.cell? ⟨b, o, none⟩ = some v) : w'.cell? ⟨b, o, none⟩ = some v := (h.cell (p := ⟨b, o, none⟩) hb).trans hc
theorem mod_below {N : Nat} {w w' : World} (h : Below N w w') : Mod (fun k => N ≤ k) w w' := ⟨h.os, h.tape, h.output, h.size, fun k _ hn => h.block k (Nat.lt_of_not_le hn)⟩
theorem part_len (B : Nat) (hB : B ≤ 59) (pt : Nat → Int → Int) (lo hi : Int) : (partR B pt lo hi).1.length ≤ 1000000 := by
  unfold partR
  split
  · exact Nat.zero_le _
  · split
    · exact Nat.zero_le _
    · show (cvV pt B lo hi).length ≤ _
      unfold cvV
      rw [List.length_map]
      have := cov_len B 0 lo hi
      omega
set_option maxRecDepth 20000 in
set_option maxHeartbeats 16000000 in
theorem STellsL_c (x : Cfg) (hx : x.Raw) (lo : Int) (hlo : U64 lo) (hi : Int) (hhi : U64 hi) (us : List (Int × Int)) (hus : UpsOk us) (v : Value) (w : World) (hv : UpsAt w v us) (hul : us.length ≤ 140737488355328) :
    Calls Tryz.prog 4 #[.agg #[.int .i64 x.bits, .int .i64 x.rows, .int .i64 x.width, .int .i64 x.mode, .int .u64 x.seed, v], .int .u64 lo, .int .u64 hi] w fun e w' => e = .returned (.bool true) ∧ Ext w w' := by
  obtain ⟨vp, vc, rfl⟩ := hv.sl
  have HV := Lib.hid hv
  have HLO := Lib.hid hlo
  have HHI := Lib.hid hhi
  clear hv hlo hhi
  go_enter Tryz.func4, Tryz.ntmps4
  go_wp2_with fail
  refine (shown16_c _).mono ?_
  rintro e w1 ⟨rfl, hb1⟩
  have hE1 : Ext w w1 := by (repeat' (first | exact Ext.refl _ | assumption | apply Ext.allocR | apply Ext.drewR | apply Ext.drewNR | (refine Ext.trans' ?_ (by assumption))))
  have hT1 := hb1.keep (heap_at w (.cells #[.int .i64 x.bits, .int .i64 x.rows, .int .i64 x.width, .int .i64 x.mode, .int .u64 x.seed, .slice vp us.length vc] 58) rfl)
  clear hb1
  have d0 := (cell_of hT1 0).trans rfl
  have d1 := (cell_of hT1 1).trans rfl
  have d2 := (cell_of hT1 2).trans rfl
  have d3 := (cell_of hT1 3).trans rfl
  have d4 := (cell_of hT1 4).trans rfl
  have dl := lt_of hT1
  go_wp2_with fail
  refine Calls.mono (Any_c x hx 6 9 (by decide) (by decide) (by decide) (by decide) _) ?_
  rintro e w2 ⟨rfl, hx2⟩
  have hok := mkC_ok x hx.s (nb := 6) (nw := 9) (by decide) (by decide) (by decide) (by decide)
  have hE12 : Ext w1 w2 := by (repeat' (first | exact Ext.refl _ | assumption | apply Ext.allocR | apply Ext.drewR | apply Ext.drewNR | (refine Ext.trans' ?_ (by assumption))))
  have hE2 := hE1.trans' hE12
  have hT2 := hE12.keep hT1
  generalize mkC x 6 9 = C at *
  have hb1 := hok.b1
  have hb2 := hok.b2
  have HT2 := Lib.hid hT2
  clear hx2 d0 d1 d2 d3 d4 dl hT1 hE1 hE12 hT2
  obtain ⟨B, hB⟩ : ∃ B : Nat, C.bits = B := ⟨C.bits.toNat, by omega⟩
  have hBt : C.bits.toNat = B := by omega
  have HBB := Lib.hid (And.intro hb1 (And.intro hb2 hB))
  have HKN := Lib.hid (fun W' => KNew_c C hok W')
  have HRN := Lib.hid (fun W' => RKNew_c C hok B hB W')
  have HBT := Lib.hid hBt
  clear hB hBt
  go_upto_region 3 with (fail)
  obtain ⟨w3, hw3⟩ : ∃ w3, w2.alloc (.cells #[.int .i64 C.bits, .int .i64 C.rows, .int .i64 C.width, .int .i64 C.mode, .int .u64 C.seed] 24) = w3 := ⟨_, rfl⟩
  have hQ : w3.heap[w2.heap.size]? = some (.cells #[.int .i64 C.bits, .int .i64 C.rows, .int .i64 C.width, .int .i64 C.mode, .int .u64 C.seed] 24 (0, 0)) := by rw [← hw3]; exact heap_at _ _ rfl
  have hE3 : Ext w w3 := by rw [← hw3]; exact hE2.allocR _
  have hE23 : Ext w2 w3 := by rw [← hw3]; exact Ext.alloc' _ _
  have hT3 := hE23.keep HT2.out
  have HT3 := Lib.hid hT3
  try rw [hw3]
  have HE3 := Lib.hid hE3
  have HQ := Lib.hid hQ
  have hC3 := CfgAt.of hQ
  clear hw3 hE2 HT2 hE23 hT3 hb1 hb2
  have c0 := hC3.c0
  have c1 := hC3.c1
  have c2 := hC3.c2
  have c3 := hC3.c3
  have c4 := hC3.c4
  have cl := hC3.lt
  clear hC3 hQ hE3
  go_wp2_with fail
  refine (HKN.out _).mono ?_
  rintro e w4 ⟨s, g, L, rfl, hK, s1, s2, hF, hx4⟩
  rw [HBT.out] at hK hF
  have HK := Lib.hid hK
  have HF := Lib.hid (show KFresh w3.heap.size B L from hF)
  have HS := Lib.hid (And.intro s1 s2)
  have HX4 := Lib.hid hx4
  have hC4 := CfgAt.of (hx4.keep HQ.out)
  clear c0 c1 c2 c3 c4 cl hK hF s1 s2 hx4
  have c0 := hC4.c0
  have c1 := hC4.c1
  have c2 := hC4.c2
  have c3 := hC4.c3
  have c4 := hC4.c4
  have cl := hC4.lt
  clear hC4
  go_wp2_with fail
  refine (HRN.out _).mono ?_
  rintro e w5 ⟨r, t, L2, rfl, hR, hRF, hx5⟩
  have hE35 := HX4.out.trans' hx5
  have hKP : KP w3.heap.size w5 C B s r (fun n => zs (lvN C n)) (fun n => zs (lvN C n)) := ⟨g, L, t, L2, w4.heap.size, HK.out.ext hx5, HK.out.low, HF.out, hR, hRF, HX4.out.size, hx5.size⟩
  have HKP := Lib.hid hKP
  clear c0 c1 c2 c3 c4 cl hR hRF hx5 hKP HK HF HS HX4 HKN HRN
  obtain ⟨N, hN⟩ : ∃ N, w3.heap.size = N := ⟨_, rfl⟩
  have hwN : w.heap.size ≤ N := by rw [← hN]; exact HE3.out.size
  rw [hN] at HKP
  have HBN : Hid (w.heap.size < N) := Lib.hid (by rw [← hN]; exact lt_of HT3.out)
  have HN := Lib.hid hN
  clear hN
  go_wp2_with fail
  go_loopw [12] (fun u wr => ∃ (k : Nat) (y : Nat → List Int), k ≤ 40 ∧ k ≤ us.length ∧ u = .int .i64 k ∧ Ext w3 wr ∧ KP N wr C B s r y y) (fun u _ => 40 - (intOf u).toNat)
  case atStart => exact ⟨0, _, Nat.zero_le _, Nat.zero_le _, rfl, hE35, HKP.out⟩
  case round =>
    clear hE35 HKP
    obtain ⟨k, y, hk40, hkl, rfl, hE, hS⟩ := hrel
    have HS := Lib.hid hS
    have hT := hE.keep HT3.out
    have b6 := (cell_of hT 5).trans rfl
    have bl := lt_of hT
    clear hS hT
    by_cases hgo : k < us.length ∧ k < 40
    · obtain ⟨hg1, hg2⟩ := hgo
      obtain ⟨ug, off, hvp, hul0, d1', d2'⟩ := HV.out.one hg1
      subst hvp
      have hEw := HE3.out.trans' hE
      have d1 := ((bcell hEw).1 _ _ hul0).trans d1'
      have d2 := ((bcell hEw).1 _ _ hul0).trans d2'
      have gl := Nat.lt_of_lt_of_le hul0 hEw.size
      have hugN : ug < N := Nat.lt_of_lt_of_le hul0 hwN
      have hu := hus _ (List.getElem_mem hg1)
      generalize us[k] = oo at *
      obtain ⟨uk, ud⟩ := oo
      obtain ⟨hukU, hudI⟩ := hu
      have HUK := Lib.hid hukU
      have HUD := Lib.hid hudI
      have HER := Lib.hid hE
      obtain ⟨S, hS⟩ : ∃ S : Nat → Prop, (fun k => N ≤ k) = S := ⟨_, rfl⟩
      have HSS := Lib.hid hS
      have ns1 : ¬ S ug := by rw [← hS]; show ¬ N ≤ ug; omega
      have ns2 : ¬ S w.heap.size := by rw [← hS]; show ¬ N ≤ w.heap.size; have := HBN.out; omega
      clear hS
      clear d1' d2' hukU hudI hEw hE
      go_wp2_with fail
      have hC0 := afs_drew S wr
      refine pi_start (fun w' => ∃ x : AftS S wr, w' = x.w) [] (by kernel_rfl) ?_
      refine pi_t 0 rfl (by kernel_rfl) (by kernel_rfl) (fun _ _ _ _ h => h) (fun K hK => ?_)
      go_big_quiet_op
      refine hK _ ?_
      clear hK K
      refine pi_t 1 rfl (by kernel_rfl) (by kernel_rfl) (fun _ _ _ _ h => h) (fun K hK => ?_)
      go_big_quiet_op
      refine hK _ ?_
      clear hK K
      refine pi_t 3 rfl (by kernel_rfl) (by kernel_rfl) (fun _ _ _ _ h => h) (fun K hK => ?_)
      go_big_quiet_op
      refine hK _ ?_
      clear hK K
      refine pi_t 7 rfl (by kernel_rfl) (by kernel_rfl) (fun _ _ _ _ h => h) (fun K hK => ?_)
      go_big_quiet_op
      refine hK _ ?_
      clear hK K
      refine pi_t 9 rfl (by kernel_rfl) (by kernel_rfl) (fun _ _ _ _ h => h) (fun K hK => ?_)
      go_big_quiet_op
      refine hK _ ?_
      clear hK K
      refine pi_c 2 (by assumption) rfl (by kernel_rfl) (by kernel_rfl) (fun _ _ _ _ h => h) (fun K hK => ?_)
      go_big_quiet_op
      refine hK _ ?_
      clear hK K
      refine pi_t 4 rfl (by kernel_rfl) (by kernel_rfl) (fun _ _ _ _ h => h) (fun K hK => ?_)
      go_big_quiet_op
      refine hK _ ?_
      clear hK K
      refine pi_t 5 rfl (by kernel_rfl) (by kernel_rfl) (fun _ _ _ _ h => h) (fun K hK => ?_)
      go_big_quiet_op
      refine hK _ ?_
      clear hK K
      refine pi_c 6 (by assumption) rfl (by kernel_rfl) (by kernel_rfl) (fun _ _ _ _ h => h) (fun K hK => ?_)
      go_big_quiet_op
      refine hK _ ?_
      clear hK K
      refine pi_c 8 (by assumption) rfl (by kernel_rfl) (by kernel_rfl) (fun _ _ _ _ h => h) (fun K hK => ?_)
      go_big_quiet_op
      refine hK _ ?_
      clear hK K
      refine pi_t 10 rfl (by kernel_rfl) (by kernel_rfl) (fun _ _ _ _ h => h) (fun K hK => ?_)
      go_big_quiet_op
      refine hK _ ?_
      clear hK K
      refine pi_t 11 rfl (by kernel_rfl) (by kernel_rfl) (fun _ _ _ _ h => h) (fun K hK => ?_)
      go_big_quiet_op
      refine hK _ ?_
      clear hK K
      refine pi_c 12 (by assumption) rfl (by kernel_rfl) (by kernel_rfl) (fun _ _ _ _ h => h) (fun K hK => ?_)
      go_big_quiet_op
      refine hK _ ?_
      clear hK K
      refine pi_l 13 rfl (by kernel_rfl) (fun K hK => ?_)
      go_wp2_with (go_at_call 26; refine Calls.mono (KP_upd (HS.out.ext (Below.drew (Ext.refl wr))) uk ud HUK.out HUD.out) ?_; rintro e w8 ⟨rfl, hQ8, hB8⟩)
      have hB8' : Below N wr w8 := Below.trans (below_of (Below.drew (Ext.refl wr)) (by have := HER.out.size; have := HN.out; omega)) hB8
      refine hK _ _ (fun _ _ => ⟨⟨w8, by rw [← HSS.out]; exact mod_below hB8'⟩, rfl⟩) ?_
      clear hK K
      have HQ8 := Lib.hid hQ8
      have HB8 := Lib.hid hB8'
      have e1' := cell_below hB8' hugN d1
      have e2' := cell_below hB8' hugN d2
      have b6' := cell_below hB8' HBN.out b6
      have gl8 := Nat.lt_of_lt_of_le gl hB8'.size
      have bl8 := Nat.lt_of_lt_of_le bl hB8'.size
      clear hQ8 hB8 hB8' d1 d2 b6
      refine pi_end (by kernel_rfl) ?_
      go_wp2_with fail
      have hC0 := afs_drew S w8
      refine pi_start (fun w' => ∃ x : AftS S w8, w' = x.w) [] (by kernel_rfl) ?_
      refine pi_t 0 rfl (by kernel_rfl) (by kernel_rfl) (fun _ _ _ _ h => h) (fun K hK => ?_)
      go_big_quiet_op
      refine hK _ ?_
      clear hK K
      refine pi_t 1 rfl (by kernel_rfl) (by kernel_rfl) (fun _ _ _ _ h => h) (fun K hK => ?_)
      go_big_quiet_op
      refine hK _ ?_
      clear hK K
      refine pi_t 3 rfl (by kernel_rfl) (by kernel_rfl) (fun _ _ _ _ h => h) (fun K hK => ?_)
      go_big_quiet_op
      refine hK _ ?_
      clear hK K
      refine pi_t 7 rfl (by kernel_rfl) (by kernel_rfl) (fun _ _ _ _ h => h) (fun K hK => ?_)
      go_big_quiet_op
      refine hK _ ?_
      clear hK K
      refine pi_t 9 rfl (by kernel_rfl) (by kernel_rfl) (fun _ _ _ _ h => h) (fun K hK => ?_)
      go_big_quiet_op
      refine hK _ ?_
      clear hK K
      refine pi_c 2 (by assumption) rfl (by kernel_rfl) (by kernel_rfl) (fun _ _ _ _ h => h) (fun K hK => ?_)
      go_big_quiet_op
      refine hK _ ?_
      clear hK K
      refine pi_t 4 rfl (by kernel_rfl) (by kernel_rfl) (fun _ _ _ _ h => h) (fun K hK => ?_)
      go_big_quiet_op
      refine hK _ ?_
      clear hK K
      refine pi_t 5 rfl (by kernel_rfl) (by kernel_rfl) (fun _ _ _ _ h => h) (fun K hK => ?_)
      go_big_quiet_op
      refine hK _ ?_
      clear hK K
      refine pi_c 6 (by assumption) rfl (by kernel_rfl) (by kernel_rfl) (fun _ _ _ _ h => h) (fun K hK => ?_)
      go_big_quiet_op
      refine hK _ ?_
      clear hK K
      refine pi_c 8 (by assumption) rfl (by kernel_rfl) (by kernel_rfl) (fun _ _ _ _ h => h) (fun K hK => ?_)
      go_big_quiet_op
      refine hK _ ?_
      clear hK K
      refine pi_t 10 rfl (by kernel_rfl) (by kernel_rfl) (fun _ _ _ _ h => h) (fun K hK => ?_)
      go_big_quiet_op
      refine hK _ ?_
      clear hK K
      refine pi_t 11 rfl (by kernel_rfl) (by kernel_rfl) (fun _ _ _ _ h => h) (fun K hK => ?_)
      go_big_quiet_op
      refine hK _ ?_
      clear hK K
      refine pi_c 12 (by assumption) rfl (by kernel_rfl) (by kernel_rfl) (fun _ _ _ _ h => h) (fun K hK => ?_)
      go_big_quiet_op
      refine hK _ ?_
      clear hK K
      refine pi_l 13 rfl (by kernel_rfl) (fun K hK => ?_)
      go_wp2_with (go_at_call 27; refine Calls.mono (KP_rupd (HQ8.out.ext (Below.drew (Ext.refl w8))) uk ud HUK.out HUD.out) ?_; rintro e w9 ⟨rfl, hQ9, hB9⟩)
      have hB89 : Below N w8 w9 := Below.trans (below_of (Below.drew (Ext.refl w8)) (by have := HER.out.size; have := HN.out; have := HB8.out.size; omega)) hB9
      refine hK _ _ (fun _ _ => ⟨⟨w9, by rw [← HSS.out]; exact mod_below hB89⟩, rfl⟩) ?_
      clear hK K
      have HQ9 := Lib.hid hQ9
      have hB9' : Below N wr w9 := Below.trans HB8.out hB89
      have hE9 : Ext w3 w9 := Below.trans HER.out (by rw [HN.out]; exact hB9')
      clear hQ9 hB9 hB9' hB89 e1' e2' b6'
      refine pi_end (by kernel_rfl) ?_
      go_wp2
      go_roundw
      case rel => exact ⟨k + 1, _, by omega, by omega, by go_num, hE9, HQ9.out⟩
      case measure => simp [intOf]; omega
    · have hge : ¬ k < us.length ∨ ¬ k < 40 := by omega
      clear hgo
      rename World => wo
      go_upto_region 8 with (fail)
      go_cut [50] (fun s74 wx => s74 = .bool false ∧ wx = wo)
      case first =>
        by_cases hgl : k < us.length
        · have hg6 : ¬ k < 40 := by omega
          go_wp2_with fail
          go_meet
          exact ⟨by first | rfl | exact congrArg Value.bool (decide_eq_false (by omega)), rfl⟩
        · first
            | (go_wp2_with fail
               go_meet
               exact ⟨rfl, rfl⟩)
            | (clear hge
               go_wp2_with fail
               go_meet
               exact ⟨by first | rfl | exact congrArg Value.bool (decide_eq_false (by omega)), rfl⟩)
      case rest =>
        obtain ⟨rfl, rfl⟩ := hcut
        rename World => wo
        clear hge b6 bl hkl hk40
        have HE := Lib.hid hE
        have hB59 : B ≤ 59 := by have := HBB.out.2.1; have := HBB.out.2.2; omega
        have hpl := part_len B hB59 (ptU C y) lo hi
        have HPA := Lib.hid (fun W' (h : Ext wo W') => KP_parts (HS.out.ext h) lo hi HLO.out HHI.out)
        have HRA := Lib.hid (fun W' (h : Ext wo W') => KP_rparts (HS.out.ext h) lo hi HLO.out HHI.out)
        have HPB := Lib.hid (fun W' (h : Ext wo W') => KP_range (HS.out.ext h) lo hi HLO.out HHI.out)
        have HRB := Lib.hid (fun W' (h : Ext wo W') => KP_rrange (HS.out.ext h) lo hi HLO.out HHI.out)
        have HPC := Lib.hid (fun W' (h : Ext wo W') => KP_rank (HS.out.ext h) hi HHI.out)
        have HRC := Lib.hid (fun W' (h : Ext wo W') => KP_rrange (HS.out.ext h) 0 hi (by unfold U64; omega) HHI.out)
        generalize partR B (ptU C y) lo hi = pr at *
        generalize rangR B (ptU C y) lo hi = rr at *
        generalize rangR B (ptU C y) 0 hi = rq at *
        obtain ⟨pl, pe⟩ := pr
        obtain ⟨ra, re⟩ := rr
        obtain ⟨qa, qe⟩ := rq
        have HPL := Lib.hid hpl
        clear hE hpl
        go_wp2_with fail
        refine Calls.mono (HPA.out _ (Ext.refl wo)) ?_
        rintro e wa ⟨v1, rfl, hv1, hxa⟩
        obtain ⟨v1p, v1c, rfl⟩ := hv1.sl
        have HV1 := Lib.hid hv1
        have HXA := Lib.hid hxa
        clear hv1 hxa
        go_wp2_with fail
        refine Calls.mono (HRA.out _ HXA.out) ?_
        rintro e wb ⟨v2, rfl, hv2, hxb⟩
        obtain ⟨v2p, v2c, rfl⟩ := hv2.sl
        have HV2 := Lib.hid hv2
        have HXB := Lib.hid (HXA.out.trans' hxb)
        have HV1b := Lib.hid (HV1.out.ext hxb)
        clear hv2 hxb
        go_wp2_with fail
        refine Calls.mono (HPB.out _ HXB.out) ?_
        rintro e wc ⟨rfl, hxc⟩
        have HXC := Lib.hid (HXB.out.trans' hxc)
        have HV2c := Lib.hid (HV2.out.ext hxc)
        have HV1c := Lib.hid (HV1b.out.ext hxc)
        clear hxc
        go_wp2_with fail
        refine Calls.mono (HRB.out _ HXC.out) ?_
        rintro e wd ⟨rfl, hxd⟩
        have HXD := Lib.hid (HXC.out.trans' hxd)
        have HV2d := Lib.hid (HV2c.out.ext hxd)
        have HV1d := Lib.hid (HV1c.out.ext hxd)
        clear hxd
        go_wp2_with fail
        refine Calls.mono (HPC.out _ HXD.out) ?_
        rintro e we ⟨rfl, hxe⟩
        have HXE := Lib.hid (HXD.out.trans' hxe)
        have HV2e := Lib.hid (HV2d.out.ext hxe)
        have HV1e := Lib.hid (HV1d.out.ext hxe)
        clear hxe
        go_wp2_with fail
        refine Calls.mono (HRC.out _ HXE.out) ?_
        rintro e wf ⟨rfl, hxf⟩
        have HXF := Lib.hid (HXE.out.trans' hxf)
        have HV2f := Lib.hid (HV2e.out.ext hxf)
        have HV1f := Lib.hid (HV1e.out.ext hxf)
        clear hxf
        have hds : decide (pl = pl) = true := decide_eq_true rfl
        go_wp2_with (go_at_call 38; refine Calls.mono (Same_c _ _ pl pl _ HV1f.out HV2f.out HPL.out HPL.out) ?_; rintro e wg ⟨rfl, hxg⟩)
        have hEz := HE3.out.trans' (HE.out.trans' (HXF.out.trans' hxg))
        go_ret
        exact ⟨by first | rfl | simp, hEz⟩
end Go.Proofs.YteoblkcbemeamaaGreat

/- SpanTells: what a span, its parts and a rank are told is what the document says, of raw updates. No condition: every input. -/
namespace Go.Proofs.YteoblkcbemeamaaGreat
set_option linter.unusedVariables false
open Go.ChangeShapes Go.WideShapes Go.ChangeAt Go.RowKit

set_option maxRecDepth 100000 in
theorem spanTells_lifted (os : Os) (started : os.Started) (H : Type) (enc : TypeId × Value → H) :
    ReturnsInHanded {} Tryz.checked os 4 .any (Rows.spanTellsSpec.pre6 enc Tryz.prog Tryz.f4 Rows.spanTellsRow.domain false) (Rows.spanTellsSpec.post enc Tryz.prog Tryz.f4 false true false false) := by
  refine returnsInHanded_of_change_sized (C := Tryz.checked) own started (by kernel_rfl) Tryz.func4
    (ChangeSpec.witness6 (enc := enc) (C := Tryz.checked) false ⟨#[], #[.agg #[.int .i64 0, .int .i64 0, .int .i64 0, .int .i64 0, .int .u64 0, .slice none 0 0], .int .u64 0, .int .u64 0], []⟩ 8 (by kernel_rfl) (by kernel_rfl) (by kernel_rfl) (by kernel_rfl)) ?_
  intro W base args ds gs before hval0 hW hcnd hsz0 _
  have hval : ∀ (j : Nat) t v, Tryz.f4.params[j]? = some t → args[j]? = some v → Value.okWide Tryz.prog W .any base t v := hval0
  have hW' := hW
  obtain ⟨p, q, hA0, hV, rfl, hfz, hnd⟩ := hW
  have hA : DataW.TrodAll enc Tryz.prog W 0 (fun _ => true) true Tryz.f4.params.toList args.toList ds p := hA0
  have hsz : (DataW.weightsEach Tryz.prog (Tryz.f4.params.toList ++ Rows.spanTellsSpec.plain.varTypes Tryz.prog) (ds ++ gs)).all (· ≤ reachBytes) = true := hsz0
  rw [Tryz.params4] at hA hval hsz
  obtain ⟨v0, vs0, d0, ds0, p0, q0, hargs, rfl, rfl, h0, r0⟩ := trodAll_cons hA
  obtain ⟨v1, vs1, d1, ds1, p1, q1, rfl, rfl, rfl, h1, r1⟩ := trodAll_cons r0
  obtain ⟨v2, vs2, d2, ds2, p2, q2, rfl, rfl, rfl, h2, r2⟩ := trodAll_cons r1
  obtain ⟨rfl, rfl, rfl⟩ := trodAll_nil r2
  obtain rfl : args = #[v0, v1, v2] := by cases args; simp_all
  obtain ⟨rfl, rfl⟩ := trodVars_none hV
  have k0 := h0
  have k1 := h1
  have k2 := h2
  have lt0 : ∀ x ∈ p0, x.block < W.heap.size := by obtain ⟨m, hm⟩ := k0; exact DataW.trod_lt m _ _ _ hm
  have lt1 : ∀ x ∈ p1, x.block < W.heap.size := by obtain ⟨m, hm⟩ := k1; exact DataW.trod_lt m _ _ _ hm
  have lt2 : ∀ x ∈ p2, x.block < W.heap.size := by obtain ⟨m, hm⟩ := k2; exact DataW.trod_lt m _ _ _ hm
  obtain ⟨x0, us0, u0, hx0, hus0, hat0, rfl, hr0⟩ := play16_of (hval 0 _ v0 rfl rfl) h0
  have hul0 := hr0 _ _ 0 hsz rfl rfl
  obtain ⟨n1, rfl, _, _, wf1⟩ := open_int Tryz.underlying22 (hval 1 _ v1 rfl rfl) h1
  have hn1 := wf_u64 wf1
  obtain ⟨n2, rfl, _, _, wf2⟩ := open_int Tryz.underlying22 (hval 2 _ v2 rfl rfl) h2
  have hn2 := wf_u64 wf2
  clear hA0 hval0
  refine (STellsL_c x0 hx0 n1 hn1 n2 hn2 us0 hus0 u0 W hat0 hul0).mono fun e W' ⟨he, bel⟩ => ?_
  subst he
  exact ⟨_, rfl, _, _, _, [], _, [], hW', trodAll_mk1 (shut_bool Tryz.underlying4 _), (trodAll_cons_mk (Below.trod laidOut (by kernel_rfl) (of_decide_eq_true (by kernel_rfl)) k0 bel lt0) (trodAll_cons_mk (Below.trod laidOut (by kernel_rfl) (of_decide_eq_true (by kernel_rfl)) k1 bel lt1) (trodAll_cons_mk (Below.trod laidOut (by kernel_rfl) (of_decide_eq_true (by kernel_rfl)) k2 bel lt2) trodAll_mk0))), rfl, bel.frame _, fun h => by cases h⟩
end Go.Proofs.YteoblkcbemeamaaGreat
