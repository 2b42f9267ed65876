/- Part. No condition. -/
import Derived.Test.YtfhdjekpdifajaaDSpanSums4
import Derived.Test.YtfhdjekpdifajaaDSpanSums1
import Derived.Test.YtfhdjekpdifajaaDSpanSums3
import Derived.Defers
import Derived.RangeFuncBox
namespace Go.Proofs.Ytfhdjekpdifajaa
set_option linter.unusedVariables false
open Go.RowKit
theorem ints_atG {w : World} {p : Option Addr} {n c : Nat} {xs : List Int} (h : IntsAt w (.slice p n c) xs) {k : Nat} (hk : k < n) : ∃ g off, p = some ⟨g, off, none⟩ ∧ g < w.heap.size ∧ w.cell? ⟨g, off + k, none⟩ = some (.int .i64 (xs.getD k 0)) := by
  rcases h with ⟨h1, _⟩ | ⟨g, off, cap, h1, h2, h3⟩
  · cases h1; omega
  · cases h1
    exact ⟨g, off, rfl, h2, h3 k hk⟩
theorem leastF_one (f : Nat → Int) : leastF f 1 = f 0 := by rw [leastF_succ]; show min (f 0) (f 0) = f 0; omega
/-- The least so far; 0 ahead of the first one. -/
def gBest (C : Cfg) (us : List (Int × Int)) (n : Nat) (j : Int) (k : Nat) : Int := if k = 0 then 0 else leastF (fun r => gOth C us n j r 60) k
theorem gBest_first (C : Cfg) (us : List (Int × Int)) (n : Nat) (j : Int) : gBest C us n j 1 = gOth C us n j 0 60 := by unfold gBest; rw [if_neg (by omega)]; exact leastF_one _
theorem gBest_succ (C : Cfg) (us : List (Int × Int)) (n : Nat) (j : Int) {k : Nat} (hk : 0 < k) : gBest C us n j (k + 1) = min (gBest C us n j k) (gOth C us n j k 60) := by
  unfold gBest
  rw [if_neg (by omega), if_neg (by omega), leastF_succ]
theorem gBest_end (C : Cfg) (us : List (Int × Int)) (n : Nat) (j : Int) {k : Nat} (hk : 0 < k) : gBest C us n j k = leastF (fun r => gOth C us n j r 60) k := by unfold gBest; rw [if_neg (by omega)]
theorem gBest_bd (C : Cfg) (us : List (Int × Int)) (n : Nat) (j : Int) (k : Nat) : -65970697666560 ≤ gBest C us n j k ∧ gBest C us n j k ≤ 65970697666560 := by
  unfold gBest
  split
  · omega
  · exact leastF_bd (fun r => gOth C us n j r 60) 65970697666560 (fun r => gOth_bd C us n j r (Nat.le_refl 60)) k
theorem guess_x {C : Cfg} {us : List (Int × Int)} {n : Nat} {j : Int} (h : isX C n = true) : guessK C us n j = hasK C us 60 n j := by
  unfold guessK; rw [h]; exact Int.add_zero _
theorem guess_s {C : Cfg} {us : List (Int × Int)} {n : Nat} {j : Int} (h : isX C n = false) (hr : 0 < rN C) : guessK C us n j = hasK C us 60 n j + gBest C us n j (rN C) := by
  unfold guessK; rw [h, gBest_end C us n j hr]; rfl
set_option maxRecDepth 20000 in
set_option maxHeartbeats 16000000 in
theorem Guess_c (us : List (Int × Int)) (hus : UpsOk us) (v : Value) (C : Cfg) (hok : C.Ok) (n : Nat) (hn : (n : Int) ≤ C.bits) (j : Int) (h0 : 0 ≤ j) (h1 : j < keys C n) (w : World) (hv : UpsAt w v us) (hul : us.length ≤ 140737488355328) :
    Calls Try.prog 8 #[.agg #[.int .i64 C.bits, .int .i64 C.rows, .int .i64 C.width, .int .i64 C.mode, .int .u64 C.seed], v, .agg #[.int .i64 n, .int .u64 j]] w
      fun e w' => e = .returned (.int .i64 (guessK C us n j)) ∧ Ext w w' := by
  obtain ⟨vp, vc, rfl⟩ := hv.sl
  have hkb := keys_bd C hok n (Int.natCast_nonneg n)
  have hjU : U64 j := by unfold U64; omega
  have hn59 : n ≤ 59 := by have := hok.b2; omega
  have hHb := hasK_bd C us (Nat.le_refl 60) n j
  have HV := Lib.hid hv
  have HOK := Lib.hid hok
  have HHAS := Lib.hid (fun W' (hE : Ext w W') => Has15_c us hus (.slice vp us.length vc) C hok n (by omega) j hjU W' (hv.ext hE) hul)
  have HEX := Lib.hid (fun W' => ExactR_c C hok n (Int.natCast_nonneg n) hn W')
  have HCO := Lib.hid (fun key (hk0 : 0 ≤ key) (hk1 : key < keys C n) W' => ColumnsR_c C hok n key (Int.natCast_nonneg n) hn hk0 hk1 W')
  have HB := Lib.hid (And.intro h0 (And.intro h1 (And.intro hkb hn)))
  have hC0 : CfgAt ((w.alloc (.cells #[.int .i64 C.bits, .int .i64 C.rows, .int .i64 C.width, .int .i64 C.mode, .int .u64 C.seed] 24)).alloc (.cells #[.int .i64 n, .int .u64 j] 41)) w.heap.size C := (CfgAt.box C _ rfl).ext (Ext.alloc' _ _)
  have hP0 : ((w.alloc (.cells #[.int .i64 C.bits, .int .i64 C.rows, .int .i64 C.width, .int .i64 C.mode, .int .u64 C.seed] 24)).alloc (.cells #[.int .i64 n, .int .u64 j] 41)).heap[w.heap.size + 1]? = some (.cells #[.int .i64 n, .int .u64 j] 41 (0, 0)) := heap_at _ _ (by rw [size_alloc])
  have hE0 : Ext w ((w.alloc (.cells #[.int .i64 C.bits, .int .i64 C.rows, .int .i64 C.width, .int .i64 C.mode, .int .u64 C.seed] 24)).alloc (.cells #[.int .i64 n, .int .u64 j] 41)) := (Ext.alloc' _ _).allocR _
  clear hv hok h0 h1 hkb hn hjU
  go_enter Try.func8, Try.ntmps8
  go_wp2_with fail
  generalize (w.alloc (.cells #[.int .i64 C.bits, .int .i64 C.rows, .int .i64 C.width, .int .i64 C.mode, .int .u64 C.seed] 24)).alloc (.cells #[.int .i64 n, .int .u64 j] 41) = W0 at *
  refine Calls.mono (HHAS.out _ hE0) ?_
  rintro e w1 ⟨rfl, hx1⟩
  have hE1 := hE0.trans' hx1
  have hC1 := hC0.ext hx1
  have hP1 := hx1.keep hP0
  have c0 := hC1.c0
  have c1 := hC1.c1
  have c2 := hC1.c2
  have c3 := hC1.c3
  have c4 := hC1.c4
  have cl := hC1.lt
  have p0 := (cell_of hP1 0).trans rfl
  have p1 := (cell_of hP1 1).trans rfl
  have pl := lt_of hP1
  have HC1 := Lib.hid hC1
  have HP1 := Lib.hid hP1
  clear hE0 hx1 hC0 hP0 hC1 hP1 HHAS
  go_wp2_with fail
  refine Calls.mono (HEX.out _) ?_
  rintro e w2 ⟨rfl, hx2⟩
  have hE2 := hE1.trans' hx2
  have HC2 := Lib.hid (HC1.out.ext hx2)
  have HP2 := Lib.hid (hx2.keep HP1.out)
  clear hE1 hx2 HC1 HP1 c0 c1 c2 c3 c4 cl p0 p1 pl
  cases hx : isX C n with
  | true =>
    have HG := Lib.hid (guess_x (us := us) (j := j) hx)
    clear hx
    generalize hasK C us 60 n j = own at *
    go_wp2
    go_ret
    exact ⟨by rw [HG.out]; rfl, hE2⟩
  | false =>
    have hrN := rN_eq HOK.out
    have hr1 := HOK.out.r1
    have hr2 := HOK.out.r2
    obtain ⟨R, hR⟩ : ∃ R, rN C = R := ⟨_, rfl⟩
    rw [hR] at hrN
    have HRT := Lib.hid (show C.rows.toNat = R from hR)
    have HG := Lib.hid (hR ▸ guess_s (us := us) (j := j) hx (by rw [hR]; omega))
    have hR1 : 1 ≤ R := by omega
    have hR8 : R ≤ 8 := by omega
    have HRR := Lib.hid hrN
    clear hx hrN hr1 hr2 hR
    generalize hasK C us 60 n j = own at *
    have c0 := HC2.out.c0
    have c1 := HC2.out.c1
    have c2 := HC2.out.c2
    have c3 := HC2.out.c3
    have c4 := HC2.out.c4
    have cl := HC2.out.lt
    have p0 := (cell_of HP2.out 0).trans rfl
    have p1 := (cell_of HP2.out 1).trans rfl
    have pl := lt_of HP2.out
    go_wp2_with fail
    refine Calls.mono (HCO.out j HB.out.1 HB.out.2.1 _) ?_
    rintro e w3 ⟨v3, rfl, ho3, hx3⟩
    rw [HRT.out] at ho3
    have hE3 := hE2.trans' hx3
    have HC3 := Lib.hid (HC2.out.ext hx3)
    have HP3 := Lib.hid (hx3.keep HP2.out)
    obtain ⟨p3, k3, rfl⟩ := own_sl ho3
    have hIA := IntsAt.of_row ho3
    have HO3 := Lib.hid hIA
    clear hE2 hx3 HC2 HP2 c0 c1 c2 c3 c4 cl p0 p1 pl ho3 hIA
    go_wp2_with fail
    go_loopw [9, 10] (fun u9 u10 wr => ∃ k : Nat, k ≤ R ∧ u9 = .int .i64 (gBest C us n j k) ∧ u10 = .int .i64 k ∧ Ext w3 wr) (fun _ u10 _ => R - (intOf u10).toNat)
    case atStart => exact ⟨0, Nat.zero_le _, rfl, rfl, Ext.refl _⟩
    case round =>
      obtain ⟨k, hk, rfl, rfl, hEk⟩ := hrel
      by_cases hkR : k < R
      · obtain ⟨hb1, hb2⟩ := gBest_bd C us n j k
        have hsu : k = 0 ∨ 0 < k := by omega
        have HBEST := Lib.hid (And.intro (gBest_first C us n j) (fun h : 0 < k => gBest_succ C us n j h))
        generalize gBest C us n j k = best at *
        rename World => wo
        go_wp2_with fail
        go_loopw [11, 12] (fun u11 u12 wi => ∃ i : Nat, i ≤ 60 ∧ i ≤ us.length ∧ u11 = .int .i64 (gOth C us n j k i) ∧ u12 = .int .i64 i ∧ Ext wo wi) (fun _ u12 _ => 60 - (intOf u12).toNat)
        case atStart => exact ⟨0, by omega, by omega, by rw [gOth_zero], rfl, Ext.refl _⟩
        case round =>
          obtain ⟨i, hi60, hil, rfl, rfl, hEi⟩ := hrel
          have hE3i := hEk.trans' hEi
          have hEw := hE3.trans' hE3i
          have hCi := HC3.out.ext hE3i
          have hPi := hE3i.keep HP3.out
          obtain ⟨hsb1, hsb2⟩ := gOth_bd C us n j k (k := i) hi60
          by_cases hgo : i < us.length ∧ i < 60
          · obtain ⟨hg1, hg2⟩ := hgo
            obtain ⟨ug, off, rfl, hul0, d0, d1⟩ := (UpsAt.ext HV.out hEw).one hg1
            have hu := hus _ (List.getElem_mem hg1)
            have hsn := gOth_succ C us hg1 n j k
            have c0 := hCi.c0
            have c1 := hCi.c1
            have c2 := hCi.c2
            have c3 := hCi.c3
            have c4 := hCi.c4
            generalize us[i] = uu at *
            obtain ⟨uk, ud⟩ := uu
            generalize gOth C us n j k i = s at *
            have HSN := Lib.hid hsn
            have HPi := Lib.hid hPi
            have HCi := Lib.hid hCi
            have hcl := hCi.lt
            have hokc := HOK.out
            clear hsn hPi hCi hE3i hEw
            go_upto_region 13 with (fail)
            go_cut [13] (fun s13 wx => ∃ bu : Nat, s13 = .pointer (some ⟨bu, 0, none⟩) ∧ wx.heap[bu]? = some (.cells #[.int .u64 (cutK C 0 uk), .int .i64 (cutD C.mode ud)] 53 (0, 0)) ∧ Ext wr wx ∧ wr.heap.size ≤ bu)
            case first =>
              have hC0 := af_drew wr
              refine pi_start (fun w' => ∃ x : After wr, w' = x.w) [] (by kernel_rfl) ?_
              refine pi_c 0 (by assumption) rfl (by kernel_rfl) (by kernel_rfl) (fun _ _ _ _ h => h) (fun K hK => ?_)
              go_big_quiet_op
              refine hK _ ?_
              clear hK K
              refine pi_t 1 rfl (by kernel_rfl) (by kernel_rfl) (fun _ _ _ _ h => h) (fun K hK => ?_)
              go_big_quiet_op
              refine hK _ ?_
              clear hK K
              refine pi_t 2 rfl (by kernel_rfl) (by kernel_rfl) (fun _ _ _ _ h => h) (fun K hK => ?_)
              go_big_quiet_op
              refine hK _ ?_
              clear hK K
              refine pi_t 3 rfl (by kernel_rfl) (by kernel_rfl) (fun _ _ _ _ h => h) (fun K hK => ?_)
              go_big_quiet_op
              refine hK _ ?_
              clear hK K
              refine pi_c 4 (by assumption) rfl (by kernel_rfl) (by kernel_rfl) (fun _ _ _ _ h => h) (fun K hK => ?_)
              go_big_quiet_op
              refine hK _ ?_
              clear hK K
              refine pi_b 5 6 rfl rfl (by kernel_rfl) (fun K hK => ?_) (fun K hK => ?_)
              · go_wp2_with (go_at_call 16; refine (Cut15_c C hokc uk ud hu.1 hu.2 _).mono ?_; rintro e w3 ⟨rfl, hx3⟩)
                have hx3' : Ext wr w3 := Ext.trans' (Below.drew (Ext.refl wr)) hx3
                have hs3 := hx3'.size
                refine hK _ _ (fun _ h => af_step h hx3) ?_
                clear hK K
                refine pi_l 6 rfl (by kernel_rfl) (fun K hK => ?_)
                go_wp2
                refine hK _ _ (fun _ h => af_step h (Ext.alloc' _ _)) ?_
                clear hK K
                refine pi_l 7 rfl (by kernel_rfl) (fun K hK => ?_)
                go_wp2
                refine hK _ _ (fun _ _ => ⟨⟨_, hx3'.allocR _⟩, rfl⟩) ?_
                clear hK K
                refine pi_end (by kernel_rfl) ?_
                go_wp2_with fail
                go_meet
                exact ⟨w3.heap.size, rfl, heap_at _ _ rfl, hx3'.allocR _, hs3⟩
              · go_wp2
                refine hK _ _ (fun _ h => af_step h (Ext.alloc' _ _)) ?_
                clear hK K
                refine pi_l 5 rfl (by kernel_rfl) (fun K hK => ?_)
                go_wp2_with (go_at_call 16; refine (Cut15_c C hokc uk ud hu.1 hu.2 _).mono ?_; rintro e w3 ⟨rfl, hx3⟩)
                refine hK _ _ (fun _ h => af_step h hx3) ?_
                clear hK K
                have hs3 : (wr.alloc (.cells #[.int .u64 0, .int .i64 0] 53)).heap.size ≤ w3.heap.size := hx3.size
                rw [size_alloc] at hs3
                have hx3' : Ext wr w3 := Ext.trans' (Ext.alloc' wr _) (Ext.trans' (Below.drew (Ext.refl _)) hx3)
                have hbx : w3.heap[wr.heap.size]? = some (.cells #[.int .u64 0, .int .i64 0] 53 (0, 0)) := by
                  rw [hx3.block _ (by show _ < (wr.alloc _).heap.size; rw [size_alloc]; exact Nat.lt_succ_self _)]
                  exact heap_at wr _ rfl
                have p0 := (cell_of hbx 0).trans rfl
                have p1 := (cell_of hbx 1).trans rfl
                have f0 := frozen_of hbx 0
                have f1 := frozen_of hbx 1
                refine pi_l 7 rfl (by kernel_rfl) (fun K hK => ?_)
                go_wp2
                refine hK _ _ (fun _ _ => ⟨⟨_, (hx3'.setR (Nat.le_refl _) _).setR (Nat.le_refl _) _⟩, rfl⟩) ?_
                clear hK K
                refine pi_end (by kernel_rfl) ?_
                go_wp2_with fail
                go_meet
                exact ⟨wr.heap.size, rfl, set2 hbx _ _, (hx3'.setR (Nat.le_refl _) _).setR (Nat.le_refl _) _, Nat.le_refl _⟩
            case rest =>
              obtain ⟨bu, rfl, hbu, hxw, hbul⟩ := hcut
              have hdb := cutD_bd C.mode ud
              have b0 := (cell_of hbu 0).trans rfl
              have bl := lt_of hbu
              have hE3w := hEk.trans' (hEi.trans' hxw)
              have hEiw := hEi.trans' hxw
              have hC' := HC3.out.ext hE3w
              have hP' := hE3w.keep HP3.out
              have c0 := hC'.c0
              have c1 := hC'.c1
              have c2 := hC'.c2
              have c3 := hC'.c3
              have c4 := hC'.c4
              have cl := hC'.lt
              have p0 := (cell_of hP' 0).trans rfl
              have p1 := (cell_of hP' 1).trans rfl
              have pl := lt_of hP'
              have hkk := cutK_bd C HOK.out 0 uk (Int.le_refl 0)
              have hsh0 := sh_nn hkk.1 n
              have hsh1 := sh_lt HOK.out HB.out.2.2.2 hkk.1 hkk.2
              have HBU := Lib.hid hbu
              clear d0 d1 hEi hxw hC' hP' hu hbu
              obtain ⟨hkk0, hkk1⟩ := hkk
              generalize cutK C 0 uk = kk at *
              generalize cutD C.mode ud = dd at *
              have HSH := Lib.hid (And.intro hsh0 hsh1)
              clear hkk1 hsh0 hsh1
              go_wp2_with fail
              refine Calls.mono (HCO.out (sh n kk) HSH.out.1 HSH.out.2 _) ?_
              rintro e w5 ⟨v5, rfl, ho5, hx5⟩
              rw [HRT.out] at ho5
              obtain ⟨p5, k5, rfl⟩ := own_sl ho5
              have hE35 := hE3w.trans' hx5
              obtain ⟨g5, o5, hp5, hg5, q5⟩ := ints_atG (IntsAt.of_row ho5) hkR
              subst hp5
              obtain ⟨g3, o3, hp3, hg3, q3⟩ := ints_atG (HO3.out.ext hE35) hkR
              subst hp3
              have hP5 := hE35.keep HP3.out
              have p1 := (cell_of hP5 1).trans rfl
              have pl := lt_of hP5
              have hbu5 := hx5.keep HBU.out
              have b1 := (cell_of hbu5 1).trans rfl
              have bl := lt_of hbu5
              have hEi5 := hEiw.trans' hx5
              have hs' := HSN.out
              generalize (cols C n (sh n kk)).getD k 0 = x at *
              generalize (cols C n j).getD k 0 = y at *
              clear c0 c1 c2 c3 c4 cl p0 b0 hx5 hE3w hEiw ho5 hP5 hbu5 HSN
              by_cases hkj : sh n kk = j
              · rw [show (sh n kk == j) = true by simpa using hkj] at hs'
                have HS := Lib.hid hs'
                have g2 : (kk / 2 ^ n != j) = false := by simpa [sh] using hkj
                clear hs' hkj
                go_wp2
                refine wp_region_after (by kernel_rfl) (by kernel_rfl) ?_
                repeat (go_big_quiet_step (fail))
                refine wpQuiet_nil ?_
                rintro _ ⟨xx, rfl⟩
                obtain ⟨w6, hb6⟩ := xx
                try dsimp only
                have hE6 := hEi5.trans' hb6
                clear hb6 p1 b1 q3 q5
                go_wp2
                go_roundw
                case rel => exact ⟨i + 1, by omega, by omega, by rw [HS.out]; exact congrArg _ (Int.add_zero _).symm, by go_num, hE6⟩
                case measure => simp [intOf] <;> omega
              · rw [show (sh n kk == j) = false by simpa using hkj] at hs'
                have g2 : (kk / 2 ^ n != j) = true := by simpa [sh] using hkj
                by_cases hxy : x = y
                · subst hxy
                  rw [show (x == x) = true by simp] at hs'
                  have HS := Lib.hid hs'
                  have b1' := b1
                  clear hs' hkj
                  go_wp2
                  refine wp_region_after (by kernel_rfl) (by kernel_rfl) ?_
                  repeat (go_big_quiet_step (fail))
                  refine wpQuiet_nil ?_
                  rintro _ ⟨xx, rfl⟩
                  obtain ⟨w6, hb6⟩ := xx
                  try dsimp only
                  have hE6 := hEi5.trans' hb6
                  have b1 := ((bcell hb6).1 _ _ bl).trans b1'
                  have bl := Nat.lt_of_lt_of_le bl hb6.size
                  clear hb6 p1 b1' q3 q5
                  go_wp2
                  go_roundw
                  case rel => exact ⟨i + 1, by omega, by omega, by rw [HS.out]; rfl, by go_num, hE6⟩
                  case measure => simp [intOf] <;> omega
                · have hxy2 : (x == y) = false := by simpa using hxy
                  rw [hxy2] at hs'
                  have HS := Lib.hid hs'
                  clear hs' hkj hxy
                  go_wp2
                  refine wp_region_after (by kernel_rfl) (by kernel_rfl) ?_
                  repeat (go_big_quiet_step (fail))
                  refine wpQuiet_nil ?_
                  rintro _ ⟨xx, rfl⟩
                  obtain ⟨w6, hb6⟩ := xx
                  try dsimp only
                  have hE6 := hEi5.trans' hb6
                  clear hb6 p1 b1 q3 q5
                  go_wp2
                  go_roundw
                  case rel => exact ⟨i + 1, by omega, by omega, by rw [HS.out]; exact congrArg _ (Int.add_zero _).symm, by go_num, hE6⟩
                  case measure => simp [intOf] <;> omega
          · have hge := gOth_end C us hi60 hil hgo n j k
            have HGE := Lib.hid hge
            clear hge hCi hPi
            rename World => wi
            go_upto_region 11 with (fail)
            go_cut [44] (fun s44 wx => s44 = .bool false ∧ wx = wi)
            case first =>
              by_cases hg1 : i < us.length
              · have hg2 : ¬ i < 60 := fun h => hgo ⟨hg1, h⟩
                go_wp2_with fail
                go_meet
                exact ⟨by simp; omega, rfl⟩
              · go_wp2_with fail
                go_meet
                exact ⟨rfl, rfl⟩
            case rest =>
              obtain ⟨rfl, rfl⟩ := hcut
              have hEk' := hEk.trans' hEi
              have hbf := HBEST.out.1
              have hbs := HBEST.out.2
              have HGS := HGE.out
              generalize gOth C us n j k i = sm at *
              clear hgo
              rcases hsu with rfl | hpos
              · rw [← HGS] at hbf
                have HBF := Lib.hid hbf
                clear hbf hbs HGS HGE HBEST
                go_wp2_with fail
                go_roundw
                case rel => exact ⟨1, by omega, by rw [HBF.out], rfl, hEk'⟩
                case measure => simp [intOf] <;> omega
              · have hb3 := hbs hpos
                rw [← HGS] at hb3
                have hpn : k ≠ 0 := by omega
                by_cases hlt : sm < best
                · have hb4 : gBest C us n j (k + 1) = sm := by rw [hb3]; omega
                  have HB4 := Lib.hid hb4
                  clear hbf hbs HGS HGE HBEST hb3 hb4
                  go_wp2_with fail
                  go_roundw
                  case rel => exact ⟨k + 1, by omega, by rw [HB4.out], by go_num, hEk'⟩
                  case measure => simp [intOf] <;> omega
                · have hb4 : gBest C us n j (k + 1) = best := by rw [hb3]; omega
                  have HB4 := Lib.hid hb4
                  clear hbf hbs HGS HGE HBEST hb3 hb4
                  go_wp2_with fail
                  go_roundw
                  case rel => exact ⟨k + 1, by omega, by rw [HB4.out], by go_num, hEk'⟩
                  case measure => simp [intOf] <;> omega
      · obtain rfl : k = R := by omega
        obtain ⟨hb1, hb2⟩ := gBest_bd C us n j k
        have hE4 := hE3.trans' hEk
        generalize gBest C us n j k = best at *
        obtain ⟨hH1, hH2⟩ := hHb
        go_wp2
        go_ret
        exact ⟨by rw [HG.out]; rfl, hE4⟩
end Go.Proofs.Ytfhdjekpdifajaa
namespace Go.Proofs.Ytfhdjekpdifajaa
set_option linter.unusedVariables false
open Go.RowKit
def updV (ps : List (Int × Int)) : List Value := ps.flatMap fun u => [.int .u64 u.1, .int .i64 u.2]
theorem updV_len (ps : List (Int × Int)) : (updV ps).length = ps.length * 2 := by
  induction ps with
  | nil => rfl
  | cons u ps ih =>
    have : updV (u :: ps) = .int .u64 u.1 :: .int .i64 u.2 :: updV ps := rfl
    rw [this, List.length_cons, List.length_cons, List.length_cons, ih]; omega
theorem updV_at {ps : List (Int × Int)} : ∀ {k : Nat} (h : k < ps.length), (updV ps)[k * 2]? = some (.int .u64 (ps.getD k (0, 0)).1) ∧ (updV ps)[k * 2 + 1]? = some (.int .i64 (ps.getD k (0, 0)).2) := by
  induction ps with
  | nil => intro k h; simp at h
  | cons u ps ih =>
    intro k h
    have e : updV (u :: ps) = .int .u64 u.1 :: .int .i64 u.2 :: updV ps := rfl
    rw [e]
    cases k with
    | zero => exact ⟨rfl, rfl⟩
    | succ k =>
      have := ih (k := k) (by simpa using h)
      rw [show (k + 1) * 2 = k * 2 + 1 + 1 by omega]
      simp only [List.getElem?_cons_succ, List.getD_cons_succ]
      exact this
theorem UpsAt.of_row {w : World} {base : Nat} {e : TypeId} {v : Value} {n : Nat} {ps : List (Int × Int)} (h : w.ownsRow base e 2 v n (updV ps)) : UpsAt w v ps := by
  obtain ⟨h1, h2⟩ := h
  have hn : n = ps.length := by rw [updV_len] at h1; omega
  subst hn
  rcases h2 with ⟨h2, h3⟩ | ⟨g, cap, cur, rfl, _, hh, hc, _, hs, ht⟩
  · refine .inl ⟨⟨_, h2⟩, ?_⟩
    exact List.length_eq_zero_iff.1 h3
  · refine .inr ⟨g, 0, cap, rfl, lt_of hh, fun k hk => ?_⟩
    obtain ⟨a1, a2⟩ := updV_at hk
    rw [← ht] at a1 a2
    rw [List.getElem?_take_of_lt (by omega)] at a1 a2
    simp only [Array.getElem?_toList] at a1 a2
    rw [cell_of hh, cell_of hh, Nat.zero_add]
    exact ⟨a1, a2⟩
section
variable {P : Program}
end
end Go.Proofs.Ytfhdjekpdifajaa
namespace Go.Proofs.Ytfhdjekpdifajaa
set_option linter.unusedVariables false
open Go.RowKit
section
variable {P : Program} {w : World}
theorem run_append_zero (base : Nat) (t ty e : TypeId) (i : TypeInfo) (size : Nat) (ht : P.underlying t = some (.slice e)) (hi : P.info? e = some i)
    (v : Value) (n : Nat) (xs : List Value) (hown : w.ownsRow base e size v n xs) (p : Option Addr) (c : Nat) :
    (Builtin.append_ #[t, t] ty #[v, .slice p 0 c]).run P w = .ok v w := by
  rcases hown.2 with ⟨rfl, rfl⟩ | ⟨g, cap, cur, rfl, _, _, hnc, _⟩
  · cases p <;> simp [Builtin.append_, run_underlying ht, sizeOf, typeInfo, hi, Builtin.lenOf, Builtin.firstCells, loadCells, loadCellsFrom]
  · cases p <;> simp [Builtin.append_, run_underlying ht, sizeOf, typeInfo, hi, Builtin.lenOf, Builtin.firstCells, loadCells, loadCellsFrom, hnc, storeCells]
theorem wpList_append_zero {ops : Array Oper} {rest : List Oper} {o : Oper} {a : Act} {Q : Exit → Act → World → Prop} (hgd : o.guard = none) (s x : Operand) (t : TypeId)
    (ho : o.op = .call { callee := .builtin .append, args := #[s, x], argTypes := #[t, t] })
    (base : Nat) (e : TypeId) (i : TypeInfo) (size : Nat) (ht : P.underlying t = some (.slice e)) (hi : P.info? e = some i)
    (v : Value) (n : Nat) (xs : List Value) (hs : a.eval s = v) (hown : w.ownsRow base e size v n xs) (p : Option Addr) (c : Nat) (hx : a.eval x = .slice p 0 c)
    (h : wpList P ops Q rest (a.put o.dst v) w) : wpList P ops Q (o :: rest) a w := by
  refine wpList_plain hgd fun K hK => ?_
  have hrun := run_append_zero (P := P) (w := w) base t o.type e i size ht hi v n xs hown p c
  unfold Oper.wp
  simp [execOp, ho, resolve, invoke, builtin, hs, hx, hrun, Result.andThen]
  exact hK _ _ h
end
/-- A world in which what W has is as it was, but for block c. -/
structure Aft (c : Nat) (W : World) where
  w : World
  h : Mod (fun i => i = c) W w
instance (c : Nat) (W : World) : Nonempty (Aft c W) := ⟨⟨W, Mod.refl _ W⟩⟩
@[go_sem] theorem Aft.cell {c : Nat} {W : World} (x : Aft c W) {b o : Nat} (h : b < W.heap.size) (hn : b ≠ c) : x.w.cell? ⟨b, o, none⟩ = W.cell? ⟨b, o, none⟩ := mcell x.h h hn o
theorem SAt.setl {w : World} {s b c : Nat} {C : Cfg} {lv : Int} {R W : Nat} {l : List Int} (h : SAt w s b c C lv R W l) {i : Nat} (hi : i < l.length) {n : Int} (hn : I64 n) : SAt (w.setCell ⟨c, i, none⟩ (.int .i64 n)) s b c C lv R W (l.set i n) :=
  ⟨by rw [setCell_other _ _ h.nes]; exact h.ex, h.g.set hi n, h.ok, h.lo, h.hi, h.hr, h.hw, fun x hx => by
    rcases List.mem_or_eq_of_mem_set hx with h1 | h1
    · exact h.fit x h1
    · rw [h1]; exact hn⟩
end Go.Proofs.Ytfhdjekpdifajaa
namespace Go.Proofs.Ytfhdjekpdifajaa
set_option linter.unusedVariables false
open Go.RowKit
/-- Updates that lie at a place. -/
def UCells (W : World) (g off : Nat) (l : List (Int × Int)) : Prop :=
  ∀ k, k < l.length → W.cell? ⟨g, off + k * 2, none⟩ = some (.int .u64 (l.getD k (0, 0)).1) ∧ W.cell? ⟨g, off + k * 2 + 1, none⟩ = some (.int .i64 (l.getD k (0, 0)).2)
theorem UCells.ext {W W' : World} {g off : Nat} {l : List (Int × Int)} (h : UCells W g off l) (hg : g < W.heap.size) (he : Ext W W') : UCells W' g off l :=
  fun k hk => ⟨((bcell he).1 _ _ hg).trans (h k hk).1, ((bcell he).1 _ _ hg).trans (h k hk).2⟩
theorem UCells.take {W : World} {g off : Nat} {l : List (Int × Int)} (h : UCells W g off l) (n : Nat) : UCells W g off (l.take n) := by
  intro k hk
  rw [List.length_take] at hk
  have := h k (by omega)
  have e : (l.take n).getD k (0, 0) = l.getD k (0, 0) := by
    rw [List.getD_eq_getElem?_getD, List.getD_eq_getElem?_getD, List.getElem?_take_of_lt (by omega)]
  rw [e]; exact this
theorem UCells.drop {W : World} {g off : Nat} {l : List (Int × Int)} (h : UCells W g off l) (n : Nat) : UCells W g (off + n * 2) (l.drop n) := by
  intro k hk
  rw [List.length_drop] at hk
  have := h (n + k) (by omega)
  have e : (l.drop n).getD k (0, 0) = l.getD (n + k) (0, 0) := by
    rw [List.getD_eq_getElem?_getD, List.getD_eq_getElem?_getD, List.getElem?_drop]
  rw [e, show off + n * 2 + k * 2 = off + (n + k) * 2 by omega]; exact this
section
variable {P : Program}
end
end Go.Proofs.Ytfhdjekpdifajaa
namespace Go.Proofs.Ytfhdjekpdifajaa
set_option linter.unusedVariables false
open Go.RowKit
theorem pcV_append (a b : List (Nat × Int)) : pcV (a ++ b) = pcV a ++ pcV b := by unfold pcV; rw [List.flatMap_append]
section
variable {P : Program}
/-- 's = append(s, p)', p a piece, s a row of the call's own. -/
theorem wpList_appp (W : World) {ops : Array Oper} {rest : List Oper} {o : Oper} {a : Act} {Q : Exit → Act → World → Prop} (p : Nat × Int) (l : List (Nat × Int)) (v : Value) (base : Nat) (e e' : TypeId) (hown : W.ownsRow base e 2 v l.length (pcV l)) (t : TypeId)
    (hgd : o.guard = none) (s y : Operand) (ho : o.op = .call { callee := .builtin .append, args := #[s, y], argTypes := #[t, t] })
    (i0 : TypeInfo) (z : Value) (hi : P.info? e = some i0) (hz0 : i0.zero = some z) (hz1 : i0.size = 2) (hz2 : i0.bytes = 16) (hzs : z.cells.size = 2) (ht : P.underlying t = some (.slice e))
    (hs : a.eval s = v) (hx : a.eval y = .slice (some ⟨W.heap.size, 0, none⟩) 1 1)
    (hl : l.length ≤ 1000000000) (hbase : base ≤ W.heap.size)
    (h : ∀ v' w', w'.ownsRow base e 2 v' (l ++ [p]).length (pcV (l ++ [p])) → (W.alloc (.cells #[.int .i64 (p.1 : Int), .int .u64 p.2] e')).grownBy w' v.ownBlock → (v'.ownBlock = v.ownBlock ∨ v'.ownBlock = some (W.heap.size + 1)) → wpList P ops Q rest (a.put o.dst v') w') :
    wpList P ops Q (o :: rest) a (W.alloc (.cells #[.int .i64 (p.1 : Int), .int .u64 p.2] e')) := by
  refine wpList_append_sep _ hgd s y t ho base e i0 z 2 16 ht hi hz0 hz1 hz2 hzs (by decide) v l.length (pcV l) hs (hown.alloc _) ⟨W.heap.size, 0, none⟩ 1 1 [.int .i64 (p.1 : Int), .int .u64 p.2] hx rfl ?_ ?_ (by unfold maxLen; omega) (by omega) (by rw [size_alloc]; omega) ?_
  · intro j v hv
    have hj : j = 0 ∨ j = 1 := by
      have := (List.getElem?_eq_some_iff.1 hv).1
      simp at this; omega
    rcases hj with rfl | rfl
    · rw [show (⟨W.heap.size, 0, none⟩ : Addr).add 0 = ⟨W.heap.size, 0, none⟩ by simp [Addr.add], cell_of (heap_at W _ rfl) 0]
      exact hv
    · rw [show (⟨W.heap.size, 0, none⟩ : Addr).add 1 = ⟨W.heap.size, 1, none⟩ by simp [Addr.add], cell_of (heap_at W _ rfl) 1]
      exact hv
  · intro x hx
    simp at hx
    rcases hx with rfl | rfl <;> rfl
  · intro v' w' h1 h2 h3
    refine h v' w' ?_ h2 ?_
    · rw [List.length_append, pcV_append]
      exact h1
    · rw [size_alloc] at h3; exact h3
theorem wpList_apppz (W : World) {ops : Array Oper} {rest : List Oper} {o : Oper} {a : Act} {Q : Exit → Act → World → Prop} (l xs : List (Nat × Int)) (v : Value) (base : Nat) (e : TypeId) (hown : W.ownsRow base e 2 v xs.length (pcV xs)) (t : TypeId)
    (hgd : o.guard = none) (s y : Operand) (ho : o.op = .call { callee := .builtin .append, args := #[s, y], argTypes := #[t, t] })
    (i0 : TypeInfo) (z : Value) (hi : P.info? e = some i0) (hz0 : i0.zero = some z) (hz1 : i0.size = 2) (hz2 : i0.bytes = 16) (hzs : z.cells.size = 2) (ht : P.underlying t = some (.slice e))
    (hs : a.eval s = v) (u : Value) (hx : a.eval y = u) (base' : Nat) (hu : W.ownsRow base' e 2 u l.length (pcV l))
    (hl : xs.length + l.length ≤ 1000000000) (hbase : base ≤ W.heap.size)
    (h : ∀ (v' : Value) (w' : World), w'.ownsRow base e 2 v' (xs ++ l).length (pcV (xs ++ l)) → (∀ W0 : World, Ext W0 W → W0.heap.size ≤ base → Ext W0 w') → (∀ (k : Nat) (cur : Array Value) (t' : TypeId), W.heap[k]? = some (Obj.cells cur t' (0, 0)) → t' ≠ e → w'.heap[k]? = some (Obj.cells cur t' (0, 0))) → wpList P ops Q rest (a.put o.dst v') w') :
    wpList P ops Q (o :: rest) a W := by
  rcases hu.2 with ⟨rfl, h0⟩ | ⟨g, cap, cur, rfl, hb, hh, hnc, hcm, hcs, htk⟩
  · have hl0 : l = [] := List.length_eq_zero_iff.1 h0
    subst hl0
    refine wpList_append_zero hgd s y t ho base e i0 2 ht hi v xs.length (pcV xs) hs hown none 0 hx ?_
    exact h v W (by rw [List.append_nil]; exact hown) (fun W0 h _ => h) (fun k cur t' hk _ => hk)
  · refine wpList_append_sep _ hgd s y t ho base e i0 z 2 16 ht hi hz0 hz1 hz2 hzs (by decide) v xs.length (pcV xs) hs hown ⟨g, 0, none⟩ l.length cap (pcV l) hx (by rw [pcV_len]) ?_ ?_ (by unfold maxLen; omega) (by omega) hbase ?_
    · intro j u' hu'
      have hj := (List.getElem?_eq_some_iff.1 hu').1
      rw [pcV_len] at hj
      rw [← htk, List.getElem?_take_of_lt hj, Array.getElem?_toList] at hu'
      rw [show (⟨g, 0, none⟩ : Addr).add j = ⟨g, j, none⟩ by (simp [Addr.add]; try omega), cell_of hh]
      exact hu'
    · intro u' hu'
      obtain ⟨j, hj⟩ := List.getElem?_of_mem hu'
      obtain ⟨k, hk, ⟨_, rfl⟩ | ⟨_, rfl⟩⟩ := pcV_get hj <;> rfl
    · intro v' w' h1 h2 h3
      refine h v' w' (by rw [List.length_append, pcV_append]; exact h1) (fun W0 hE hb => ext_grown0 hE h2 fun k hk => Nat.le_trans hb (own_blk hown hk)) (fun k cur t' hk ht' => ?_)
      rw [h2.block k (lt_of hk) (fun he => ?_)]
      · exact hk
      · obtain ⟨cur', hc'⟩ := own_type hown he.symm
        rw [hk] at hc'
        injection hc' with hc'
        injection hc' with _ hc' _
        exact ht' hc'
end
theorem own_keepB {w w' : World} {base n size : Nat} {e : TypeId} {v : Value} {xs : List Value} (h : w.ownsRow base e size v n xs) (hk : ∀ k, v.ownBlock = some k → w'.heap[k]? = w.heap[k]?) : w'.ownsRow base e size v n xs := by
  refine ⟨h.1, ?_⟩
  rcases h.2 with h' | ⟨g, cap, cur, rfl, hb, hh, hr⟩
  · exact .inl h'
  · exact .inr ⟨g, cap, cur, rfl, hb, (hk g rfl).trans hh, hr⟩
theorem own_lt {w : World} {base n size : Nat} {e : TypeId} {v : Value} {xs : List Value} (h : w.ownsRow base e size v n xs) {k : Nat} (hk : v.ownBlock = some k) : k < w.heap.size := by
  obtain ⟨cur, hc⟩ := own_type h hk; exact lt_of hc
theorem own_notB {w : World} {base n size b : Nat} {e t : TypeId} {v : Value} {xs : List Value} {cur : Array Value} (h : w.ownsRow base e size v n xs) (hb : w.heap[b]? = some (.cells cur t (0, 0))) (ht : t ≠ e) : v.ownBlock ≠ some b := by
  intro hk
  obtain ⟨cur', hc⟩ := own_type h hk
  rw [hb] at hc
  injection hc with hc
  injection hc with _ hc _
  exact ht hc
/-- Two rows do not lie in one block. -/
def Dja (v u : Value) : Prop := ∀ i, v.ownBlock = some i → u.ownBlock ≠ some i
theorem Dja.symm {v u : Value} (h : Dja v u) : Dja u v := fun i h1 h2 => h i h2 h1
/-- Two rows of pieces that lie apart, each in a box. -/
structure CovW (w W : World) (b6 b8 : Nat) (v6 v8 : Value) (pre suf : List (Nat × Int)) : Prop where
  x6 : W.heap[b6]? = some (.cells #[v6] 32 (0, 0))
  x8 : W.heap[b8]? = some (.cells #[v8] 32 (0, 0))
  o6 : W.ownsRow w.heap.size 41 2 v6 pre.length (pcV pre)
  o8 : W.ownsRow w.heap.size 41 2 v8 suf.length (pcV suf)
  dj : Dja v6 v8
  g6 : w.heap.size ≤ b6
  g8 : w.heap.size ≤ b8
  ne : b6 ≠ b8
  ext : Ext w W
theorem CovW.symm {w W : World} {b6 b8 : Nat} {v6 v8 : Value} {pre suf : List (Nat × Int)} (h : CovW w W b6 b8 v6 v8 pre suf) : CovW w W b8 b6 v8 v6 suf pre := ⟨h.x8, h.x6, h.o8, h.o6, h.dj.symm, h.g8, h.g6, h.ne.symm, h.ext⟩
theorem CovW.set {w W : World} {b6 b8 : Nat} {v6 v8 : Value} {pre suf : List (Nat × Int)} (h : CovW w W b6 b8 v6 v8 pre suf) : CovW w (W.setCell ⟨b6, 0, none⟩ v6) b6 b8 v6 v8 pre suf :=
  ⟨by rw [setCell_same h.x6]; rfl, by rw [setCell_other _ _ h.ne.symm]; exact h.x8, own_keepB h.o6 (fun k hk => setCell_other _ _ (fun e => own_notB h.o6 h.x6 (by decide) (e ▸ hk))), own_keepB h.o8 (fun k hk => setCell_other _ _ (fun e => own_notB h.o8 h.x6 (by decide) (e ▸ hk))), h.dj, h.g6, h.g8, h.ne, h.ext.setR (p := ⟨b6, 0, none⟩) h.g6 _⟩
theorem CovW.app0 {w W w1 : World} {b6 b8 : Nat} {v6 v8 : Value} {pre suf : List (Nat × Int)} {o : Obj} (h : CovW w W b6 b8 v6 v8 pre suf) (h2 : (W.alloc o).grownBy w1 v6.ownBlock) : w1.heap[b6]? = some (.cells #[v6] 32 (0, 0)) :=
  (grown_old h2 (lt_of h.x6) (fun e => own_notB h.o6 h.x6 (by decide) e.symm)).trans h.x6
/-- One of them has a piece more. -/
theorem CovW.app {w W w1 : World} {b6 b8 : Nat} {v6 v8 v' : Value} {pre suf : List (Nat × Int)} {p : Nat × Int} {o : Obj} (h : CovW w W b6 b8 v6 v8 pre suf)
    (h1 : w1.ownsRow w.heap.size 41 2 v' (pre.length + 1) (pcV (pre ++ [p]))) (h2 : (W.alloc o).grownBy w1 v6.ownBlock) (h3 : v'.ownBlock = v6.ownBlock ∨ v'.ownBlock = some (W.heap.size + 1)) :
    CovW w (w1.setCell ⟨b6, 0, none⟩ v') b6 b8 v' v8 (pre ++ [p]) suf := by
  replace h1 : w1.ownsRow w.heap.size 41 2 v' (pre ++ [p]).length (pcV (pre ++ [p])) := by rw [List.length_append]; exact h1
  have old : ∀ k, k < W.heap.size → v6.ownBlock ≠ some k → w1.heap[k]? = W.heap[k]? := fun k hk hn => grown_old h2 hk (fun e => hn e.symm)
  have k6 := (old b6 (lt_of h.x6) (own_notB h.o6 h.x6 (by decide))).trans h.x6
  have k8 := (old b8 (lt_of h.x8) (own_notB h.o6 h.x8 (by decide))).trans h.x8
  have r8 : w1.ownsRow w.heap.size 41 2 v8 suf.length (pcV suf) := own_keepB h.o8 (fun k hk => old k (own_lt h.o8 hk) (fun e => h.dj k e hk))
  refine ⟨by rw [setCell_same k6]; rfl, by rw [setCell_other _ _ h.ne.symm]; exact k8, own_keepB h1 (fun k hk => setCell_other _ _ (fun e => own_notB h1 k6 (by decide) (e ▸ hk))), own_keepB r8 (fun k hk => setCell_other _ _ (fun e => own_notB r8 k6 (by decide) (e ▸ hk))), ?_, h.g6, h.g8, h.ne, ?_⟩
  · intro i hi hu
    rcases h3 with h3 | h3
    · exact h.dj i (h3 ▸ hi) hu
    · have := own_lt h.o8 hu
      rw [h3] at hi
      have := Option.some.inj hi
      omega
  · have h2' : Ext w w1 := by
      refine Below.grown (h.ext.allocR o) h2 (by rw [size_alloc]; have := h.ext.size; omega) (fun k hk => own_blk h.o6 hk)
    exact h2'.setR (p := ⟨b6, 0, none⟩) h.g6 _
end Go.Proofs.Ytfhdjekpdifajaa
namespace Go.Proofs.Ytfhdjekpdifajaa
set_option linter.unusedVariables false
open Go.RowKit
/-- Element m of a row whose first and last k have changed places. -/
def rvF (ps : List (Nat × Int)) (k m : Nat) : Nat × Int := if m < k ∨ ps.length ≤ m + k then ps.getD (ps.length - 1 - m) (0, 0) else ps.getD m (0, 0)
theorem rvF_zero (ps : List (Nat × Int)) {m : Nat} (h : m < ps.length) : rvF ps 0 m = ps.getD m (0, 0) := by
  unfold rvF; rw [if_neg (by omega)]
theorem rvF_end (ps : List (Nat × Int)) {k m : Nat} (h : m < ps.length) (hk : ps.length ≤ 2 * k + 1) : rvF ps k m = ps.reverse.getD m (0, 0) := by
  have e : ps.reverse.getD m (0, 0) = ps.getD (ps.length - 1 - m) (0, 0) := by
    rw [List.getD_eq_getElem?_getD, List.getD_eq_getElem?_getD, List.getElem?_reverse h]
  rw [e]
  unfold rvF
  by_cases hc : m < k ∨ ps.length ≤ m + k
  · rw [if_pos hc]
  · rw [if_neg hc]
    congr 1
    omega
def CellsF (cur : Array Value) (n : Nat) (f : Nat → Nat × Int) : Prop := ∀ m, m < n → cur[m * 2]? = some (.int .i64 ((f m).1 : Int)) ∧ cur[m * 2 + 1]? = some (.int .u64 (f m).2)
theorem cellsF_swap {cur : Array Value} {ps : List (Nat × Int)} {k j : Nat} (hc : CellsF cur ps.length (rvF ps k)) (hs : ps.length * 2 ≤ cur.size) (hkj : k < j) (hj : j + k + 1 = ps.length) :
    CellsF ((((cur.setIfInBounds (k * 2) (.int .i64 ((rvF ps k j).1 : Int))).setIfInBounds (k * 2 + 1) (.int .u64 (rvF ps k j).2)).setIfInBounds (j * 2) (.int .i64 ((rvF ps k k).1 : Int))).setIfInBounds (j * 2 + 1) (.int .u64 (rvF ps k k).2)) ps.length (rvF ps (k + 1)) := by
  intro m hm
  have e1 : rvF ps k j = ps.getD j (0, 0) := by unfold rvF; rw [if_neg (by omega)]
  have e2 : rvF ps k k = ps.getD k (0, 0) := by unfold rvF; rw [if_neg (by omega)]
  rw [e1, e2]
  obtain ⟨a1, a2⟩ := hc m hm
  by_cases hmk : m = k
  · subst hmk
    have e : rvF ps (m + 1) m = ps.getD j (0, 0) := by unfold rvF; rw [if_pos (by omega)]; congr 1; omega
    rw [e]
    constructor
    · rw [Array.getElem?_setIfInBounds_ne (by omega), Array.getElem?_setIfInBounds_ne (by omega), Array.getElem?_setIfInBounds_ne (by omega), Array.getElem?_setIfInBounds_self_of_lt (by omega)]
    · rw [Array.getElem?_setIfInBounds_ne (by omega), Array.getElem?_setIfInBounds_ne (by omega), Array.getElem?_setIfInBounds_self_of_lt (by rw [Array.size_setIfInBounds]; omega)]
  · by_cases hmj : m = j
    · subst hmj
      have e : rvF ps (k + 1) m = ps.getD k (0, 0) := by unfold rvF; rw [if_pos (by omega)]; congr 1; omega
      rw [e]
      constructor
      · rw [Array.getElem?_setIfInBounds_ne (by omega), Array.getElem?_setIfInBounds_self_of_lt (by simp only [Array.size_setIfInBounds]; omega)]
      · rw [Array.getElem?_setIfInBounds_self_of_lt (by simp only [Array.size_setIfInBounds]; omega)]
    · have e : rvF ps (k + 1) m = rvF ps k m := by
        unfold rvF
        by_cases hc : m < k ∨ ps.length ≤ m + k
        · rw [if_pos hc, if_pos (by omega)]
        · rw [if_neg hc, if_neg (by omega)]
      rw [e]
      constructor
      · rw [Array.getElem?_setIfInBounds_ne (by omega), Array.getElem?_setIfInBounds_ne (by omega), Array.getElem?_setIfInBounds_ne (by omega), Array.getElem?_setIfInBounds_ne (by omega)]; exact a1
      · rw [Array.getElem?_setIfInBounds_ne (by omega), Array.getElem?_setIfInBounds_ne (by omega), Array.getElem?_setIfInBounds_ne (by omega), Array.getElem?_setIfInBounds_ne (by omega)]; exact a2
theorem cellsF_take {cur : Array Value} {n : Nat} {f : Nat → Nat × Int} {ps : List (Nat × Int)} (hc : CellsF cur n f) (hl : ps.length = n) (hf : ∀ m, m < n → f m = ps.getD m (0, 0)) : cur.toList.take (n * 2) = pcV ps := by
  subst hl
  apply List.ext_getElem?
  intro i
  by_cases hi : i < ps.length * 2
  · rw [List.getElem?_take_of_lt hi, Array.getElem?_toList]
    obtain ⟨b1, b2⟩ := hc (i / 2) (by omega)
    obtain ⟨a1, a2⟩ := pcV_at (ps := ps) (k := i / 2) (by omega)
    rw [hf (i / 2) (by omega)] at b1 b2
    by_cases he : i % 2 = 0
    · rw [show i = i / 2 * 2 by omega, b1, a1]
    · rw [show i = i / 2 * 2 + 1 by omega, b2, a2]
  · rw [List.getElem?_eq_none (by rw [List.length_take]; omega), List.getElem?_eq_none (by rw [pcV_len]; omega)]
theorem cellsF_of {cur : Array Value} {ps : List (Nat × Int)} (h : cur.toList.take (ps.length * 2) = pcV ps) : CellsF cur ps.length (rvF ps 0) := by
  intro m hm
  obtain ⟨a1, a2⟩ := pcV_at hm
  rw [← h] at a1 a2
  rw [List.getElem?_take_of_lt (by omega)] at a1 a2
  simp only [Array.getElem?_toList] at a1 a2
  rw [rvF_zero _ hm]
  exact ⟨a1, a2⟩
/-- The world in which a row is being turned round. -/
def RvAt (w : World) (g : Nat) (ps : List (Nat × Int)) (cs k : Nat) (W : World) : Prop :=
  (∃ cur, W.heap[g]? = some (.cells cur 41 (0, 0)) ∧ cur.size = cs ∧ CellsF cur ps.length (rvF ps k)) ∧ Mod (fun b => b = g) w W
theorem rv_next {w W : World} {g : Nat} {ps : List (Nat × Int)} {cs k j : Nat} (h : RvAt w g ps cs k W) (hs : ps.length * 2 ≤ cs) (hkj : k < j) (hj : j + k + 1 = ps.length) {a c : Nat × Int} (ha : rvF ps k j = a) (hc : rvF ps k k = c) :
    RvAt w g ps cs (k + 1) ((((W.setCell ⟨g, k * 2, none⟩ (.int .i64 (a.1 : Int))).setCell ⟨g, k * 2 + 1, none⟩ (.int .u64 a.2)).setCell ⟨g, j * 2, none⟩ (.int .i64 (c.1 : Int))).setCell ⟨g, j * 2 + 1, none⟩ (.int .u64 c.2)).drew := by
  subst ha hc
  obtain ⟨⟨cur, h1, h2, h3⟩, hm⟩ := h
  have q := setCell_same (setCell_same (setCell_same (setCell_same h1 (k * 2) (.int .i64 ((rvF ps k j).1 : Int))) (k * 2 + 1) (.int .u64 (rvF ps k j).2)) (j * 2) (.int .i64 ((rvF ps k k).1 : Int))) (j * 2 + 1) (.int .u64 (rvF ps k k).2)
  refine ⟨⟨_, q, by simp only [Array.size_setIfInBounds]; exact h2, cellsF_swap h3 (by omega) hkj hj⟩, ?_⟩
  exact ((((hm.trans (mod_set _ _ _ _)).trans (mod_set _ _ _ _)).trans (mod_set _ _ _ _)).trans (mod_set _ _ _ _)).trans ((Ext.refl _).drewR.mod _)
def RevPost (w : World) (v : Value) (base : Nat) (ps : List (Nat × Int)) (e : Ending) (w' : World) : Prop :=
  e = .returned (.tuple #[]) ∧ w'.ownsRow base 41 2 v ps.length (pcV ps.reverse) ∧ Mod (fun k => v.ownBlock = some k) w w'
set_option maxRecDepth 20000 in
set_option maxHeartbeats 4000000 in
theorem Reverse_c (ps : List (Nat × Int)) (v : Value) (base : Nat) (w : World) (h : w.ownsRow base 41 2 v ps.length (pcV ps)) (hl : ps.length ≤ 1000000) :
    Calls Try.prog 34 #[v] w (RevPost w v base ps) := by
  rcases h.2 with ⟨rfl, h0⟩ | ⟨g, cap, cur, rfl, hb, hh, hnc, hcm, hcs, htk⟩
  · have e : ps = [] := List.length_eq_zero_iff.1 h0
    subst e
    have h' := h
    clear h h0
    go_enter Try.func34, Try.ntmps34
    go_wp2
    go_loopw [2, 3] (fun i j wr => i = .int .i64 0 ∧ j = .int .i64 (-1) ∧ wr = w) (fun _ _ _ => 0)
    case atStart => exact ⟨rfl, rfl, rfl⟩
    case round =>
      obtain ⟨rfl, rfl, rfl⟩ := hrel
      go_wp2
      go_end0
      exact ⟨rfl, h', Mod.refl _ _⟩
  · have hr0 : RvAt w g ps (cap * 2) 0 w := ⟨⟨cur, hh, hcs, cellsF_of htk⟩, Mod.refl _ _⟩
    have HR0 := Lib.hid hr0
    have hcap := hcm
    unfold maxLen at hcap
    clear h hr0 htk hh hcs
    generalize hn : ps.length = n at *
    have HN := Lib.hid hn
    clear hn
    go_enter Try.func34, Try.ntmps34
    go_wp2
    go_loopw [2, 3] (fun i j wr => ∃ (k : Nat) (z : Int), z + k + 1 = n ∧ 2 * k ≤ n ∧ i = .int .i64 k ∧ j = .int .i64 z ∧ RvAt w g ps (cap * 2) k wr) (fun i _ _ => n - (intOf i).toNat)
    case atStart => exact ⟨0, (n : Int) - 1, by omega, by omega, rfl, rfl, HR0.out⟩
    case round =>
      obtain ⟨k, z, hz, hk2, rfl, rfl, hR⟩ := hrel
      by_cases hlt : (k : Int) < z
      · obtain ⟨j, rfl⟩ : ∃ j : Nat, z = j := ⟨z.toNat, by omega⟩
        obtain ⟨cur', hh, hcs, hcf⟩ := hR.1
        have hgl : g < wr.heap.size := lt_of hh
        obtain ⟨k0, k1⟩ := hcf k (by rw [HN.out]; omega)
        obtain ⟨j0, j1⟩ := hcf j (by rw [HN.out]; omega)
        rw [← cell_of hh] at k0 k1 j0 j1
        have fz := fun o => frozen_of hh o
        have HH := Lib.hid hh
        have HR := Lib.hid hR
        clear hR hh hcs hcf
        generalize hvk : rvF ps k k = vk at *
        generalize hvj : rvF ps k j = vj at *
        have HV := Lib.hid (And.intro hvk hvj)
        clear hvk hvj
        obtain ⟨vk1, vk2⟩ := vk
        obtain ⟨vj1, vj2⟩ := vj
        dsimp only at k0 k1 j0 j1
        go_wp2_with fail
        have hC0 := af_drew wr
        refine pi_start (fun w' => ∃ x : After wr, w' = x.w) [13, 15] (by kernel_rfl) ?_
        refine pi_t 0 rfl (by kernel_rfl) (by kernel_rfl) (fun _ _ _ _ h => h) (fun K hK => ?_)
        go_big_quiet_op
        refine hK _ ?_
        clear hK K
        refine pi_t 1 rfl (by kernel_rfl) (by kernel_rfl) (fun _ _ _ _ h => h) (fun K hK => ?_)
        go_big_quiet_op
        refine hK _ ?_
        clear hK K
        refine pi_t 2 rfl (by kernel_rfl) (by kernel_rfl) (fun _ _ _ _ h => h) (fun K hK => ?_)
        go_big_quiet_op
        refine hK _ ?_
        clear hK K
        refine pi_t 3 rfl (by kernel_rfl) (by kernel_rfl) (fun _ _ _ _ h => h) (fun K hK => ?_)
        go_big_quiet_op
        refine hK _ ?_
        clear hK K
        refine pi_t 4 rfl (by kernel_rfl) (by kernel_rfl) (fun _ _ _ _ h => h) (fun K hK => ?_)
        go_big_quiet_op
        refine hK _ ?_
        clear hK K
        refine pi_t 5 rfl (by kernel_rfl) (by kernel_rfl) (fun _ _ _ _ h => h) (fun K hK => ?_)
        go_big_quiet_op
        refine hK _ ?_
        clear hK K
        refine pi_t 6 rfl (by kernel_rfl) (by kernel_rfl) (fun _ _ _ _ h => h) (fun K hK => ?_)
        go_big_quiet_op
        refine hK _ ?_
        clear hK K
        refine pi_t 8 rfl (by kernel_rfl) (by kernel_rfl) (fun _ _ _ _ h => h) (fun K hK => ?_)
        go_big_quiet_op
        refine hK _ ?_
        clear hK K
        refine pi_t 9 rfl (by kernel_rfl) (by kernel_rfl) (fun _ _ _ _ h => h) (fun K hK => ?_)
        go_big_quiet_op
        refine hK _ ?_
        clear hK K
        refine pi_t 10 rfl (by kernel_rfl) (by kernel_rfl) (fun _ _ _ _ h => h) (fun K hK => ?_)
        go_big_quiet_op
        refine hK _ ?_
        clear hK K
        refine pi_c 7 (by assumption) rfl (by kernel_rfl) (by kernel_rfl) (fun _ _ _ _ h => h) (fun K hK => ?_)
        go_big_quiet_op
        refine hK _ ?_
        clear hK K
        refine pi_c 11 (by assumption) rfl (by kernel_rfl) (by kernel_rfl) (fun _ _ _ _ h => h) (fun K hK => ?_)
        go_big_quiet_op
        refine hK _ ?_
        clear hK K
        refine pi_t 12 rfl (by kernel_rfl) (by kernel_rfl) (fun _ _ _ _ h => h) (fun K hK => ?_)
        go_big_quiet_op
        refine hK _ ?_
        clear hK K
        refine pi_l 13 rfl (by kernel_rfl) (fun K hK => ?_)
        go_wp2
        refine hK _ _ (by simp) ?_
        clear hK K
        refine pi_t 14 rfl (by kernel_rfl) (by kernel_rfl) (fun _ _ _ _ h => h) (fun K hK => ?_)
        go_big_quiet_op
        refine hK _ ?_
        clear hK K
        refine pi_l 15 rfl (by kernel_rfl) (fun K hK => ?_)
        go_wp2
        refine hK _ _ (by simp) ?_
        clear hK K
        refine pi_end (by kernel_rfl) ?_
        go_wp2_with fail
        go_roundw
        case rel =>
          have hN := rv_next (a := (vj1, vj2)) (c := (vk1, vk2)) HR.out (by rw [HN.out]; omega) (by omega) (by rw [HN.out]; omega) HV.out.2 HV.out.1
          exact ⟨k + 1, (j : Int) - 1, by omega, by omega, by go_num, by go_num, hN⟩
        case measure => simp [intOf]; omega
      · have hk3 : n ≤ 2 * k + 1 := by omega
        obtain ⟨⟨cur', h1, h2, h3⟩, hm⟩ := hR
        have hfin : wr.ownsRow base 41 2 (.slice (some ⟨g, 0, none⟩) n cap) n (pcV ps.reverse) :=
          ⟨by rw [pcV_len, List.length_reverse, HN.out], .inr ⟨g, cap, cur', rfl, hb, h1, hnc, hcm, h2, by rw [← HN.out]; exact cellsF_take h3 (List.length_reverse) (fun m hm => rvF_end ps hm (by rw [HN.out]; exact hk3))⟩⟩
        go_wp2
        go_end0
        exact ⟨rfl, by rw [HN.out]; exact hfin, hm.mono (fun k hk _ => by rw [hk]; rfl)⟩
end Go.Proofs.Ytfhdjekpdifajaa
namespace Go.Proofs.Ytfhdjekpdifajaa
set_option linter.unusedVariables false
open Go.RowKit
/-- The pieces of a span, from both sides, level by level. -/
def covL : Nat → Nat → Int → Int → List (Nat × Int)
  | 0, l, lo, _ => [(l, lo)]
  | f + 1, l, lo, hi =>
    if lo = hi then [(l, lo)]
    else (if lo % 2 = 1 then [(l, lo)] else []) ++
      ((if (if hi % 2 = 0 then hi - 1 else hi) < (if lo % 2 = 1 then lo + 1 else lo) then [] else covL f (l + 1) ((if lo % 2 = 1 then lo + 1 else lo) / 2) ((if hi % 2 = 0 then hi - 1 else hi) / 2)) ++
      (if hi % 2 = 0 then [(l, hi)] else []))
/-- Pieces one behind the other, from a key up to another. -/
def Chain (lo e : Int) : List (Nat × Int) → Prop
  | [] => lo = e
  | p :: ps => p.2 * 2 ^ p.1 = lo ∧ Chain (lo + 2 ^ p.1) e ps
/-- No greater piece lies there. -/
def Great (lo e : Int) (p : Nat × Int) : Prop := ¬ (lo ≤ p.2 / 2 * 2 ^ (p.1 + 1) ∧ (p.2 / 2 + 1) * 2 ^ (p.1 + 1) ≤ e)
theorem pw (n : Nat) : (0 : Int) < 2 ^ n := Int.pow_pos (by decide)
theorem chain_le {lo e : Int} : ∀ {ps : List (Nat × Int)}, Chain lo e ps → lo ≤ e
  | [], h => Int.le_of_eq h
  | p :: ps, ⟨_, h⟩ => by have := chain_le h; have := pw p.1; omega
theorem chain_app {m e : Int} {qs : List (Nat × Int)} (h2 : Chain m e qs) : ∀ {lo : Int} {ps : List (Nat × Int)}, Chain lo m ps → Chain lo e (ps ++ qs)
  | lo, [], h => by have h' : lo = m := h; subst h'; exact h2
  | lo, p :: ps, ⟨h, h1⟩ => ⟨h, chain_app h2 h1⟩
theorem chain_one (l : Nat) (i : Int) : Chain (i * 2 ^ l) ((i + 1) * 2 ^ l) [(l, i)] := ⟨rfl, by show i * 2 ^ l + 2 ^ l = (i + 1) * 2 ^ l; rw [Int.add_mul, Int.one_mul]⟩
theorem pw_succ (n : Nat) : (2 : Int) ^ (n + 1) = 2 * 2 ^ n := by rw [Int.pow_succ, Int.mul_comm]
theorem cov_chain : ∀ (f l : Nat) (lo hi : Int), 0 ≤ lo → lo ≤ hi → hi < 2 ^ f → Chain (lo * 2 ^ l) ((hi + 1) * 2 ^ l) (covL f l lo hi)
  | 0, l, lo, hi, h0, h1, h2 => by
    have : hi < 1 := h2
    have e : hi = lo := by omega
    subst e
    exact chain_one l hi
  | f + 1, l, lo, hi, h0, h1, h2 => by
    rw [pw_succ] at h2
    unfold covL
    by_cases he : lo = hi
    · subst he
      rw [if_pos rfl]
      exact chain_one l lo
    · rw [if_neg he]
      have ha : Chain (lo * 2 ^ l) ((if lo % 2 = 1 then lo + 1 else lo) * 2 ^ l) (if lo % 2 = 1 then [(l, lo)] else []) := by
        by_cases h : lo % 2 = 1
        · rw [if_pos h, if_pos h]; exact chain_one l lo
        · rw [if_neg h, if_neg h]; rfl
      have hb : Chain (((if hi % 2 = 0 then hi - 1 else hi) + 1) * 2 ^ l) ((hi + 1) * 2 ^ l) (if hi % 2 = 0 then [(l, hi)] else []) := by
        by_cases h : hi % 2 = 0
        · rw [if_pos h, if_pos h, show hi - 1 + 1 = hi by omega]; exact chain_one l hi
        · rw [if_neg h, if_neg h]; rfl
      have h3 : (if lo % 2 = 1 then lo + 1 else lo) % 2 = 0 ∧ 0 ≤ (if lo % 2 = 1 then lo + 1 else lo) ∧ (if lo % 2 = 1 then lo + 1 else lo) ≤ hi := by split <;> omega
      have h4 : (if hi % 2 = 0 then hi - 1 else hi) % 2 = 1 ∧ (if hi % 2 = 0 then hi - 1 else hi) ≤ hi ∧ lo ≤ (if hi % 2 = 0 then hi - 1 else hi) := by split <;> omega
      have h5 : (if lo % 2 = 1 then lo + 1 else lo) ≤ (if hi % 2 = 0 then hi - 1 else hi) + 1 := by split <;> split <;> omega
      refine chain_app (chain_app hb ?_) ha
      generalize (if lo % 2 = 1 then lo + 1 else lo) = a at *
      generalize (if hi % 2 = 0 then hi - 1 else hi) = b at *
      by_cases hlt : b < a
      · rw [if_pos hlt]
        have : a = b + 1 := by omega
        rw [this]; rfl
      · rw [if_neg hlt]
        have ih := cov_chain f (l + 1) (a / 2) (b / 2) (by omega) (by omega) (by omega)
        rw [pw_succ, show a / 2 * (2 * 2 ^ l) = a * 2 ^ l by rw [← Int.mul_assoc]; congr 1; omega, show (b / 2 + 1) * (2 * 2 ^ l) = (b + 1) * 2 ^ l by rw [← Int.mul_assoc]; congr 1; omega] at ih
        exact ih
theorem cov_lev : ∀ (f l : Nat) (lo hi : Int), ∀ p ∈ covL f l lo hi, l ≤ p.1 ∧ p.1 ≤ l + f
  | 0, l, lo, hi, p, hp => by
    simp only [covL, List.mem_singleton] at hp
    subst hp
    exact ⟨Nat.le_refl _, Nat.le_refl _⟩
  | f + 1, l, lo, hi, p, hp => by
    unfold covL at hp
    by_cases he : lo = hi
    · rw [if_pos he] at hp
      simp only [List.mem_singleton] at hp
      subst hp
      exact ⟨Nat.le_refl _, by simp⟩
    · rw [if_neg he] at hp
      simp only [List.mem_append] at hp
      rcases hp with hp | hp | hp
      · split at hp
        · simp only [List.mem_singleton] at hp; subst hp; exact ⟨Nat.le_refl _, by simp⟩
        · cases hp
      · by_cases hc : (if hi % 2 = 0 then hi - 1 else hi) < (if lo % 2 = 1 then lo + 1 else lo)
        · rw [if_pos hc] at hp; cases hp
        · rw [if_neg hc] at hp
          have := cov_lev f (l + 1) _ _ p hp
          omega
      · split at hp
        · simp only [List.mem_singleton] at hp; subst hp; exact ⟨Nat.le_refl _, by simp⟩
        · cases hp
/-- Multiples of a greater number. -/
theorem grow_l {P k x lo : Int} {m : Nat} (hP : 0 < P) (hk : k = 2 ^ (m + 1) * P) (h : lo * P ≤ x * k) (ho : lo % 2 = 1) : (lo + 1) * P ≤ x * k := by
  have e : x * k = (2 * (x * 2 ^ m)) * P := by rw [hk, pw_succ]; ac_rfl
  rw [e] at h ⊢
  have := Int.le_of_mul_le_mul_right h hP
  exact Int.mul_le_mul_of_nonneg_right (by omega) (Int.le_of_lt hP)
theorem grow_r {P k x e : Int} {m : Nat} (hP : 0 < P) (hk : k = 2 ^ (m + 1) * P) (h : x * k ≤ (e + 1) * P) (ho : e % 2 = 0) : x * k ≤ e * P := by
  have e' : x * k = (2 * (x * 2 ^ m)) * P := by rw [hk, pw_succ]; ac_rfl
  rw [e'] at h ⊢
  have := Int.le_of_mul_le_mul_right h hP
  exact Int.mul_le_mul_of_nonneg_right (by omega) (Int.le_of_lt hP)
theorem cov_great : ∀ (f l : Nat) (lo hi : Int), 0 ≤ lo → lo ≤ hi → hi < 2 ^ f → ∀ p ∈ covL f l lo hi, Great (lo * 2 ^ l) ((hi + 1) * 2 ^ l) p
  | f, l, lo, hi, h0, h1, h2 => by
    have hP := pw l
    have one_l : lo % 2 = 1 → Great (lo * 2 ^ l) ((hi + 1) * 2 ^ l) (l, lo) := by
      rintro h ⟨h3, _⟩
      simp only [pw_succ] at h3
      rw [show lo / 2 * (2 * 2 ^ l) = (lo - 1) * 2 ^ l by rw [← Int.mul_assoc]; congr 1; omega] at h3
      have := Int.le_of_mul_le_mul_right h3 hP
      omega
    have one_r : hi % 2 = 0 → Great (lo * 2 ^ l) ((hi + 1) * 2 ^ l) (l, hi) := by
      rintro h ⟨_, h3⟩
      simp only [pw_succ] at h3
      rw [show (hi / 2 + 1) * (2 * 2 ^ l) = (hi + 2) * 2 ^ l by rw [← Int.mul_assoc]; congr 1; omega] at h3
      have := Int.le_of_mul_le_mul_right h3 hP
      omega
    have same : lo = hi → Great (lo * 2 ^ l) ((hi + 1) * 2 ^ l) (l, lo) := by
      intro e
      by_cases h : lo % 2 = 1
      · exact one_l h
      · have := one_r (by omega)
        rw [← e] at this ⊢
        exact this
    cases f with
    | zero =>
      have : hi < 1 := h2
      intro p hp
      simp only [covL, List.mem_singleton] at hp
      subst hp
      exact same (by omega)
    | succ f =>
      rw [pw_succ] at h2
      intro p hp
      unfold covL at hp
      by_cases he : lo = hi
      · rw [if_pos he] at hp
        simp only [List.mem_singleton] at hp
        subst hp
        exact same he
      · rw [if_neg he] at hp
        simp only [List.mem_append] at hp
        rcases hp with hp | hp | hp
        · by_cases h : lo % 2 = 1
          · rw [if_pos h] at hp
            simp only [List.mem_singleton] at hp
            subst hp
            exact one_l h
          · rw [if_neg h] at hp; cases hp
        · have h3 : (if lo % 2 = 1 then lo + 1 else lo) % 2 = 0 ∧ 0 ≤ (if lo % 2 = 1 then lo + 1 else lo) ∧ ((if lo % 2 = 1 then lo + 1 else lo) = lo ∨ lo % 2 = 1 ∧ (if lo % 2 = 1 then lo + 1 else lo) = lo + 1) := by split <;> omega
          have h4 : (if hi % 2 = 0 then hi - 1 else hi) % 2 = 1 ∧ (if hi % 2 = 0 then hi - 1 else hi) ≤ hi ∧ ((if hi % 2 = 0 then hi - 1 else hi) = hi ∨ hi % 2 = 0 ∧ (if hi % 2 = 0 then hi - 1 else hi) = hi - 1) := by split <;> omega
          generalize (if lo % 2 = 1 then lo + 1 else lo) = a at *
          generalize (if hi % 2 = 0 then hi - 1 else hi) = b at *
          by_cases hc : b < a
          · rw [if_pos hc] at hp; cases hp
          · rw [if_neg hc] at hp
            have ih := cov_great f (l + 1) (a / 2) (b / 2) (by omega) (by omega) (by omega) p hp
            obtain ⟨hl, _⟩ := cov_lev f (l + 1) _ _ p hp
            rw [pw_succ, show a / 2 * (2 * 2 ^ l) = a * 2 ^ l by rw [← Int.mul_assoc]; congr 1; omega, show (b / 2 + 1) * (2 * 2 ^ l) = (b + 1) * 2 ^ l by rw [← Int.mul_assoc]; congr 1; omega] at ih
            rintro ⟨g1, g2⟩
            have hk : (2 : Int) ^ (p.1 + 1) = 2 ^ (p.1 - l + 1) * 2 ^ l := by
              rw [← Int.pow_add]; congr 1; omega
            refine ih ⟨?_, ?_⟩
            · rcases h3.2.2 with e | ⟨ho, e⟩
              · rw [e]; exact g1
              · rw [e]; exact grow_l hP hk g1 ho
            · rcases h4.2.2 with e | ⟨ho, e⟩
              · rw [e]; exact g2
              · rw [e, show hi - 1 + 1 = hi by omega]; exact grow_r hP hk g2 ho
        · by_cases h : hi % 2 = 0
          · rw [if_pos h] at hp
            simp only [List.mem_singleton] at hp
            subst hp
            exact one_r h
          · rw [if_neg h] at hp; cases hp
/-- The greatest piece that fits at the left. -/
def gLev (lo hi : Int) : Nat → Nat → Nat
  | 0, l => l
  | f + 1, l => if lo % 2 ^ (l + 1) = 0 ∧ 2 ^ (l + 1) - 1 ≤ hi - lo then gLev lo hi f (l + 1) else l
def gCov (B : Nat) (hi : Int) : Nat → Int → List (Nat × Int)
  | 0, _ => []
  | f + 1, lo => if lo ≤ hi then (gLev lo hi B 0, lo / 2 ^ gLev lo hi B 0) :: gCov B hi f (lo + 2 ^ gLev lo hi B 0) else []
theorem gLev_eq {lo hi : Int} {m : Nat} (hm : ∀ j, j ≤ m → lo % 2 ^ j = 0 ∧ 2 ^ j - 1 ≤ hi - lo) : ∀ (f l : Nat), l ≤ m → m ≤ l + f → (m = l + f ∨ ¬ (lo % 2 ^ (m + 1) = 0 ∧ 2 ^ (m + 1) - 1 ≤ hi - lo)) → gLev lo hi f l = m
  | 0, l, h1, h2, _ => by show l = m; omega
  | f + 1, l, h1, h2, h3 => by
    unfold gLev
    by_cases e : l = m
    · subst e
      rw [if_neg (h3.resolve_left (by omega))]
    · rw [if_pos (hm (l + 1) (by omega))]
      exact gLev_eq hm f (l + 1) (by omega) (by omega) (by omega)
theorem great_mono {lo lo' e : Int} {p : Nat × Int} (h : Great lo e p) (hl : lo ≤ lo') : Great lo' e p := fun ⟨a, b⟩ => h ⟨by omega, b⟩
theorem gCov_eq {B : Nat} {hi : Int} : ∀ (ps : List (Nat × Int)) (f : Nat) (lo : Int), Chain lo (hi + 1) ps → (∀ p ∈ ps, Great lo (hi + 1) p ∧ p.1 ≤ B) → ps.length < f → gCov B hi f lo = ps
  | _, 0, _, _, _, hf => by omega
  | [], f + 1, lo, hc, _, _ => by
    have : lo = hi + 1 := hc
    unfold gCov
    rw [if_neg (by omega)]
  | p :: ps, f + 1, lo, hc, hg, hf => by
    obtain ⟨hp1, hc'⟩ := hc
    have hle := chain_le hc'
    have hpp := pw p.1
    obtain ⟨hgr, hpB⟩ := hg p (by simp)
    have hlev : gLev lo hi B 0 = p.1 := by
      refine gLev_eq (m := p.1) (fun j hj => ?_) B 0 (Nat.zero_le _) (by omega) ?_
      · have e : (2 : Int) ^ p.1 = 2 ^ (p.1 - j) * 2 ^ j := by rw [← Int.pow_add]; congr 1; omega
        have h1 : (1 : Int) ≤ 2 ^ (p.1 - j) := pw (p.1 - j)
        have h2 : (2 : Int) ^ j ≤ 2 ^ p.1 := by
          rw [e]
          have := Int.mul_le_mul_of_nonneg_right h1 (Int.le_of_lt (pw j))
          omega
        refine ⟨?_, by omega⟩
        rw [← hp1, e, ← Int.mul_assoc]
        exact Int.mul_emod_left _ _
      · refine .inr ?_
        rintro ⟨h1, h2⟩
        refine hgr ?_
        rw [pw_succ] at h1 h2 ⊢
        have he : p.2 % 2 = 0 := by
          rw [← hp1] at h1
          have := Int.mul_emod_mul_of_pos p.2 2 hpp
          rw [Int.mul_comm, Int.mul_comm 2] at h1
          rw [this] at h1
          rcases Int.mul_eq_zero.1 h1 with h | h
          · omega
          · exact h
        have e1 : p.2 / 2 * (2 * 2 ^ p.1) = lo := by
          rw [← hp1, ← Int.mul_assoc]; congr 1; omega
        rw [Int.add_mul, e1]
        omega
    unfold gCov
    rw [if_pos (by omega), hlev, gCov_eq ps f _ hc' (fun q hq => ⟨great_mono (hg q (by simp [hq])).1 (by omega), (hg q (by simp [hq])).2⟩) (by simp at hf; omega)]
    congr 1
    rw [← hp1, Int.mul_ediv_cancel _ (by omega)]
theorem cov_len : ∀ (f l : Nat) (lo hi : Int), (covL f l lo hi).length ≤ 2 * f + 1
  | 0, _, _, _ => Nat.le_refl _
  | f + 1, l, lo, hi => by
    unfold covL
    split
    · simp
    · have := cov_len f (l + 1) ((if lo % 2 = 1 then lo + 1 else lo) / 2) ((if hi % 2 = 0 then hi - 1 else hi) / 2)
      simp only [List.length_append]
      split <;> split <;> split <;> simp_all <;> omega
/-- Both ways to cut a span give the same pieces. -/
theorem cov_same {B : Nat} {lo hi : Int} (h0 : 0 ≤ lo) (h1 : lo ≤ hi) (h2 : hi < 2 ^ B) {f : Nat} (hf : 2 * B + 1 < f) : gCov B hi f lo = covL B 0 lo hi := by
  have hc := cov_chain B 0 lo hi h0 h1 h2
  have hg := cov_great B 0 lo hi h0 h1 h2
  simp only [Int.pow_zero, Int.mul_one] at hc hg
  refine gCov_eq _ f lo hc (fun p hp => ⟨hg p hp, by have := cov_lev B 0 lo hi p hp; omega⟩) (by have := cov_len B 0 lo hi; omega)
theorem cov_bd : ∀ (f l : Nat) (lo hi : Int), 0 ≤ lo → lo ≤ hi → hi < 2 ^ f → ∀ p ∈ covL f l lo hi, 0 ≤ p.2 ∧ p.2 < 2 ^ (l + f - p.1)
  | 0, l, lo, hi, h0, h1, h2, p, hp => by
    have h2' : hi < 1 := h2
    simp only [covL, List.mem_singleton] at hp
    subst hp
    refine ⟨h0, ?_⟩
    show lo < 2 ^ (l + 0 - l)
    rw [Nat.add_zero, Nat.sub_self]
    show lo < 1
    omega
  | f + 1, l, lo, hi, h0, h1, h2, p, hp => by
    have hh := h2
    rw [pw_succ] at h2
    unfold covL at hp
    by_cases he : lo = hi
    · rw [if_pos he] at hp
      simp only [List.mem_singleton] at hp
      subst hp
      refine ⟨h0, ?_⟩
      show lo < 2 ^ (l + (f + 1) - l)
      rw [show l + (f + 1) - l = f + 1 by omega]; omega
    · rw [if_neg he] at hp
      simp only [List.mem_append] at hp
      rcases hp with hp | hp | hp
      · split at hp
        · simp only [List.mem_singleton] at hp; subst hp
          refine ⟨h0, ?_⟩
          show lo < 2 ^ (l + (f + 1) - l)
          rw [show l + (f + 1) - l = f + 1 by omega]; omega
        · cases hp
      · have h3 : 0 ≤ (if lo % 2 = 1 then lo + 1 else lo) := by split <;> omega
        have h4 : (if hi % 2 = 0 then hi - 1 else hi) ≤ hi := by split <;> omega
        generalize (if lo % 2 = 1 then lo + 1 else lo) = a at *
        generalize (if hi % 2 = 0 then hi - 1 else hi) = b at *
        by_cases hc : b < a
        · rw [if_pos hc] at hp; cases hp
        · rw [if_neg hc] at hp
          have := cov_bd f (l + 1) (a / 2) (b / 2) (by omega) (by omega) (by omega) p hp
          rw [show l + 1 + f = l + (f + 1) by omega] at this
          exact this
      · split at hp
        · simp only [List.mem_singleton] at hp; subst hp
          refine ⟨by omega, ?_⟩
          show hi < 2 ^ (l + (f + 1) - l)
          rw [show l + (f + 1) - l = f + 1 by omega]; omega
        · cases hp
theorem cov_self (f l : Nat) (i : Int) : covL f l i i = [(l, i)] := by
  cases f with
  | zero => rfl
  | succ f => unfold covL; rw [if_pos rfl]
end Go.Proofs.Ytfhdjekpdifajaa
namespace Go.Proofs.Ytfhdjekpdifajaa
set_option linter.unusedVariables false
open Go.RowKit
def CloPost (w W : World) (b6 : Nat) (pre suf : List (Nat × Int)) (e : Ending) (w' : World) : Prop :=
  e = .returned (.tuple #[]) ∧ ∃ v', w'.heap[b6]? = some (.cells #[v'] 32 (0, 0)) ∧ w'.ownsRow w.heap.size 41 2 v' (pre ++ suf.reverse).length (pcV (pre ++ suf.reverse)) ∧ Ext w w'
/-- What the row at b8 was is turned round. -/
theorem CovW.rev {w W w1 : World} {b6 b8 : Nat} {v6 v8 : Value} {pre suf : List (Nat × Int)} (h : CovW w W b6 b8 v6 v8 pre suf)
    (h1 : w1.ownsRow w.heap.size 41 2 v8 suf.length (pcV suf.reverse)) (hm : Mod (fun k => v8.ownBlock = some k) W w1) : CovW w w1 b6 b8 v6 v8 pre suf.reverse := by
  have k6 := (hm.block b6 (lt_of h.x6) (fun e => own_notB h.o8 h.x6 (by decide) e)).trans h.x6
  have k8 := (hm.block b8 (lt_of h.x8) (fun e => own_notB h.o8 h.x8 (by decide) e)).trans h.x8
  refine ⟨k6, k8, own_keepB h.o6 (fun k hk => hm.block k (own_lt h.o6 hk) (fun e => h.dj k hk e)), by rw [List.length_reverse]; exact h1, h.dj, h.g6, h.g8, h.ne, ?_⟩
  exact ⟨hm.os.trans h.ext.os, hm.tape.trans h.ext.tape, hm.output.trans h.ext.output, Nat.le_trans h.ext.size hm.size, fun k hk => (hm.block k (Nat.lt_of_lt_of_le hk h.ext.size) (fun e => by have := own_blk h.o8 e; omega)).trans (h.ext.block k hk)⟩
set_option maxRecDepth 20000 in
set_option maxHeartbeats 2000000 in
theorem CoverD_c (w W : World) (b6 b8 : Nat) (v6 v8 : Value) (pre suf : List (Nat × Int)) (u : FrameMode) (h : CovW w W b6 b8 v6 v8 pre suf) (hp : pre.length ≤ 100000) (hs : suf.length ≤ 100000) :
    CallsD Try.prog 33 #[.pointer (some ⟨b8, 0, none⟩), .pointer (some ⟨b6, 0, none⟩)] u W fun e u' w' => u' = u ∧ CloPost w W b6 pre suf e w' := by
  obtain ⟨i0, z0, hi, hz0, hz1, hz2, hzs⟩ := info_pc
  have c8 := (cell_of h.x8 0).trans rfl
  have l8 := lt_of h.x8
  have HH := Lib.hid h
  clear h
  go_enter_d Try.func33, Try.ntmps33
  go_wp2_with fail
  refine Calls.mono (Reverse_c suf v8 w.heap.size W HH.out.o8 (by omega)) ?_
  rintro e w1 ⟨rfl, ho, hm⟩
  have h1 := HH.out.rev ho hm
  clear c8 l8 ho hm
  have c6 := (cell_of h1.x6 0).trans rfl
  have c8 := (cell_of h1.x8 0).trans rfl
  have l6 := lt_of h1.x6
  have l8 := lt_of h1.x8
  have f6 := frozen_of h1.x6 0
  have H1 := Lib.hid h1
  clear h1
  go_wp2_with (at_builtin; refine wpList_apppz _ suf.reverse pre v6 w.heap.size 41 H1.out.o6 32 rfl _ _ rfl i0 z0 hi hz0 hz1 hz2 hzs Try.underlying32 rfl v8 rfl w.heap.size H1.out.o8 (by rw [List.length_reverse]; omega) H1.out.ext.size ?_)
  intro v' w2 hown hext hcells
  have k6 := hcells _ _ _ H1.out.x6 (by decide)
  have hE := hext w H1.out.ext (Nat.le_refl _)
  have HK := Lib.hid k6
  have c62 := (cell_of k6 0).trans rfl
  have l62 := lt_of k6
  have f62 := frozen_of k6 0
  obtain ⟨pv, cv, rfl⟩ := own_sl hown
  clear hext hcells k6
  go_wp2
  go_end0
  have hlen : (pre ++ suf.reverse).length = pre.length + suf.length := by simp
  refine ⟨rfl, _, by rw [setCell_same HK.out]; rfl, ?_, hE.setR (p := ⟨b6, 0, none⟩) H1.out.g6 _⟩
  rw [hlen]
  exact own_keepB hown (fun k hk => setCell_other _ _ (fun e => own_notB hown HK.out (by decide) (e ▸ hk)))
def CoverPost (w : World) (B : Nat) (lo hi : Int) (e : Ending) (w' : World) : Prop :=
  ((hi < lo ∨ 2 ^ B ≤ hi) ∧ e = .returned (.tuple #[.slice none 0 0, .bool false]) ∧ Ext w w') ∨
  ((lo ≤ hi ∧ hi < 2 ^ B) ∧ ∃ v, e = .returned (.tuple #[v, .bool true]) ∧ w'.ownsRow w.heap.size 41 2 v (covL B 0 lo hi).length (pcV (covL B 0 lo hi)) ∧ Ext w w')
theorem cov_step {B l : Nat} {a b : Int} (hl : l < B) (hne : a ≠ b) : covL (B - l) l a b = (if a % 2 = 1 then [(l, a)] else []) ++
    ((if (if b % 2 = 0 then b - 1 else b) < (if a % 2 = 1 then a + 1 else a) then [] else covL (B - (l + 1)) (l + 1) ((if a % 2 = 1 then a + 1 else a) / 2) ((if b % 2 = 0 then b - 1 else b) / 2)) ++ (if b % 2 = 0 then [(l, b)] else [])) := by
  rw [show B - l = (B - (l + 1)) + 1 by omega]
  conv => lhs; unfold covL
  rw [if_neg hne]
theorem rev_one (c : Prop) [Decidable c] (p : Nat × Int) : (if c then [p] else []).reverse = if c then [p] else [] := by split <;> rfl
set_option maxRecDepth 20000 in
set_option maxHeartbeats 4000000 in
theorem Cover_c (B : Nat) (hB1 : 1 ≤ B) (hB2 : B ≤ 59) (lo hi : Int) (hlo : U64 lo) (hhi : U64 hi) (w : World) :
    Calls Try.prog 18 #[.int .i64 B, .int .u64 lo, .int .u64 hi] w (CoverPost w B lo hi) := by
  have hmf : ∀ (fn : Fn) (first cap : Array Value) (w : World), (Instr.makeFunc fn first cap).run Try.prog w = .ok (.func fn first cap) w := fun _ _ _ _ => rfl
  obtain ⟨hlo0, hlo1⟩ := hlo
  obtain ⟨hhi0, hhi1⟩ := hhi
  have hpw := pow_bd B hB2
  by_cases h1 : hi < lo
  · go_enter_defers Try.func18, Try.ntmps18
    go_wp2
    exact ⟨.tuple #[.slice none 0 0, .bool false], by simp [results, Try.results18, go_sem], .inl ⟨.inl h1, rfl, Ext.alloc' _ _⟩⟩
  · by_cases h2 : 2 ^ B ≤ hi
    · go_enter_defers Try.func18, Try.ntmps18
      go_wp2
      exact ⟨.tuple #[.slice none 0 0, .bool false], by simp [results, Try.results18, go_sem], .inl ⟨.inr h2, rfl, Ext.alloc' _ _⟩⟩
    · have hcv : CovW w ((w.alloc (.cells #[.slice none 0 0] 32)).alloc (.cells #[.slice none 0 0] 32)) w.heap.size (w.heap.size + 1) (.slice none 0 0) (.slice none 0 0) [] [] :=
        ⟨by rw [heap_old _ _ (by rw [size_alloc]; omega)]; exact heap_at _ _ rfl, heap_at _ _ (size_alloc _ _).symm, ⟨rfl, .inl ⟨rfl, rfl⟩⟩, ⟨rfl, .inl ⟨rfl, rfl⟩⟩, (fun i hi => by simp [Value.ownBlock] at hi), Nat.le_refl _, by omega, by omega, (Ext.alloc' _ _).allocR _⟩
      have HCV := Lib.hid hcv
      have HF := Lib.hid (show (lo ≤ hi ∧ hi < 2 ^ B) from ⟨by omega, by omega⟩)
      obtain ⟨i0, z0, hi0, hz0, hz1, hz2, hzs⟩ := info_pc
      have door : ∀ (W : World) (v6 v8 : Value) (pre suf : List (Nat × Int)) (tm : Array Value), CovW w W w.heap.size (w.heap.size + 1) v6 v8 pre suf → pre.length ≤ 100 → suf.length ≤ 100 → covL B 0 lo hi = pre ++ suf.reverse → tm[6]? = some (.pointer (some ⟨w.heap.size, 0, none⟩)) → tm[7]? = some (.bool true) →
          bodyPostD Try.prog Try.f18 (CoverPost w B lo hi) .ret { tmps := tm, defers := [{ target := .fn (.func 33) #[.pointer (some ⟨w.heap.size + 1, 0, none⟩), .pointer (some ⟨w.heap.size, 0, none⟩)], args := #[] }] } W := by
        intro W v6 v8 pre suf tm h hp hs hcv t6 t7
        refine leaves_cons (f := 33) (args := #[.pointer (some ⟨w.heap.size + 1, 0, none⟩), .pointer (some ⟨w.heap.size, 0, none⟩)]) (by simp) (by simp [go_sem]) ?_
        refine (CoverD_c w W _ _ v6 v8 pre suf .returning h (by omega) (by omega)).mono ?_
        rintro e u' w'' ⟨rfl, rfl, v', hk, ho, hE⟩
        have hc := (cell_of hk 0).trans rfl
        exact ⟨.tuple #[v', .bool true], by simp [results, Try.results18, go_sem, t6, t7, hc], .inr ⟨HF.out, v', rfl, by rw [hcv]; exact ho, hE⟩⟩
      have HD := Lib.hid door
      clear door hcv
      go_enter_defers Try.func18, Try.ntmps18
      go_wp2_with fail
      go_loopw [1, 2, 9] (fun s1 s2 s9 wr => ∃ (a b : Int) (l : Nat) (pre suf : List (Nat × Int)) (v6 v8 : Value), s1 = .int .u64 a ∧ s2 = .int .u64 b ∧ s9 = .int .i64 l ∧ l ≤ B ∧ 0 ≤ a ∧ a ≤ b ∧ b < 2 ^ (B - l) ∧ pre.length ≤ l ∧ suf.length ≤ l ∧
        covL B 0 lo hi = pre ++ (covL (B - l) l a b ++ suf.reverse) ∧ CovW w wr w.heap.size (w.heap.size + 1) v6 v8 pre suf) (fun _ _ s9 _ => B - (intOf s9).toNat)
      case atStart => exact ⟨lo, hi, 0, [], [], _, _, rfl, rfl, rfl, Nat.zero_le _, hlo0, by omega, by rw [Nat.sub_zero]; omega, Nat.le_refl _, Nat.le_refl _, by simp, HCV.out⟩
      case round =>
        obtain ⟨a, b, l, pre, suf, v6, v8, rfl, rfl, rfl, hl, ha0, hab, hbb, hpl, hsl, hcov, hW⟩ := hrel
        have hpw2 := pow_bd (B - l) (by omega)
        have HC := Lib.hid hcov
        have c6 := (cell_of hW.x6 0).trans rfl
        have c8 := (cell_of hW.x8 0).trans rfl
        have l6 := lt_of hW.x6
        have l8 := lt_of hW.x8
        have f6 := frozen_of hW.x6 0
        have f8 := frozen_of hW.x8 0
        have hsz := hW.ext.size
        have HW := Lib.hid hW
        clear hcov hW
        by_cases he : a = b
        · subst he
          go_wp2_with (at_builtin; refine wpList_appp _ (l, a) pre v6 w.heap.size 41 41 HW.out.o6 32 rfl _ _ rfl i0 z0 hi0 hz0 hz1 hz2 hzs Try.underlying32 rfl rfl (by omega) HW.out.ext.size ?_)
          intro v' w' hw1 hw2 hw3
          have hW1 := HW.out.app hw1 hw2 hw3
          have hk0 := HW.out.app0 hw2
          obtain ⟨pv, cv, rfl⟩ := own_sl hw1
          have W1 := Lib.hid hW1
          have j6 := (cell_of hk0 0).trans rfl
          have j6l := lt_of hk0
          have j6f := frozen_of hk0 0
          have k6 := (cell_of hW1.x6 0).trans rfl
          have k6l := lt_of hW1.x6
          have k6f := frozen_of hW1.x6 0
          clear hw1 hw2 hw3 hW1 hk0
          go_wp2
          refine HD.out _ _ _ _ _ _ W1.out.set ?_ ?_ ?_ rfl rfl
          · rw [List.length_append, List.length_singleton]; omega
          · omega
          · rw [HC.out, cov_self, List.append_assoc]
        · have hl2 : l < B := by
            rcases Nat.lt_or_ge l B with h | h
            · exact h
            · rw [show B - l = 0 by omega] at hbb
              have : b < 1 := hbb
              omega
          have ha1 := and_1 a ha0 (by omega)
          have hb1 := and_1 b (by omega) (by omega)
          have hstep := cov_step hl2 he
          have h3 : (if a % 2 = 1 then a + 1 else a) % 2 = 0 ∧ a ≤ (if a % 2 = 1 then a + 1 else a) ∧ (if a % 2 = 1 then a + 1 else a) ≤ b := by split <;> omega
          have h4 : (if b % 2 = 0 then b - 1 else b) % 2 = 1 ∧ (if b % 2 = 0 then b - 1 else b) ≤ b ∧ a ≤ (if b % 2 = 0 then b - 1 else b) := by split <;> omega
          have h5 : (if a % 2 = 1 then a + 1 else a) ≤ (if b % 2 = 0 then b - 1 else b) + 1 := by split <;> split <;> omega
          have h6 : (if a % 2 = 1 then [(l, a)] else []).length ≤ 1 ∧ (if b % 2 = 0 then [(l, b)] else []).length ≤ 1 := by constructor <;> split <;> simp
          have h7 := rev_one (b % 2 = 0) (l, b)
          obtain ⟨a2, ha2⟩ : ∃ a2, (if a % 2 = 1 then a + 1 else a) = a2 := ⟨_, rfl⟩
          obtain ⟨b2, hb2⟩ : ∃ b2, (if b % 2 = 0 then b - 1 else b) = b2 := ⟨_, rfl⟩
          obtain ⟨L, hL⟩ : ∃ L, (if a % 2 = 1 then [(l, a)] else []) = L := ⟨_, rfl⟩
          obtain ⟨R, hR⟩ : ∃ R, (if b % 2 = 0 then [(l, b)] else []) = R := ⟨_, rfl⟩
          rw [ha2] at h3 h5
          rw [hb2] at h4 h5
          rw [hL, hR] at h6
          rw [hR] at h7
          rw [ha2, hb2, hL, hR] at hstep
          obtain ⟨h31, h32, h33⟩ := h3
          obtain ⟨h41, h42, h43⟩ := h4
          have HS := Lib.hid hstep
          have H6 := Lib.hid h6
          have H7 := Lib.hid h7
          have HA := Lib.hid ha2
          have HBB := Lib.hid hb2
          have HL := Lib.hid hL
          have HR := Lib.hid hR
          clear hstep h6 h7 ha2 hb2 hL hR
          go_upto_if 42 with (fail)
          go_cut [1] from 30 to 69 (fun s1 wx => ∃ v6' : Value, s1 = .int .u64 a2 ∧ CovW w wx w.heap.size (w.heap.size + 1) v6' v8 (pre ++ L) suf)
          case first =>
            have hA2 := HA.out
            have hL2 := HL.out
            by_cases ho : a % 2 = 1
            · rw [if_pos ho] at hA2 hL2
              subst hA2 hL2
              go_wp2_with (at_builtin; refine wpList_appp _ (l, a) pre v6 w.heap.size 41 41 HW.out.o6 32 rfl _ _ rfl i0 z0 hi0 hz0 hz1 hz2 hzs Try.underlying32 rfl rfl (by omega) HW.out.ext.size ?_)
              intro v' w' hw1 hw2 hw3
              have hW1 := HW.out.app hw1 hw2 hw3
              have hk0 := HW.out.app0 hw2
              obtain ⟨pv, cv, rfl⟩ := own_sl hw1
              have W1 := Lib.hid hW1
              have j6 := (cell_of hk0 0).trans rfl
              have j6l := lt_of hk0
              have j6f := frozen_of hk0 0
              clear hw1 hw2 hw3 hW1 hk0
              go_wp2
              go_meet
              exact ⟨_, rfl, W1.out⟩
            · rw [if_neg ho] at hA2 hL2
              subst hA2 hL2
              have ho2 : (a % 2 == 1) = false := by simp; omega
              go_wp2_with fail
              go_meet
              exact ⟨v6, rfl, by rw [List.append_nil]; exact HW.out⟩
          case rest =>
            obtain ⟨v6', rfl, hW2⟩ := hcut
            clear HW c6 c8 l6 l8 f6 f8 ha1
            have c8 := (cell_of hW2.x8 0).trans rfl
            have l8 := lt_of hW2.x8
            have f8 := frozen_of hW2.x8 0
            have HW2 := Lib.hid hW2
            clear hW2
            go_upto_if 53 with (fail)
            go_cut [2] from 30 to 69 (fun s2 wx => ∃ v8' : Value, s2 = .int .u64 b2 ∧ CovW w wx w.heap.size (w.heap.size + 1) v6' v8' (pre ++ L) (suf ++ R))
            case first =>
              have hB2 := HBB.out
              have hR2 := HR.out
              by_cases ho : b % 2 = 0
              · rw [if_pos ho] at hB2 hR2
                subst hB2 hR2
                go_wp2_with (at_builtin; refine wpList_appp _ (l, b) suf v8 w.heap.size 41 41 HW2.out.o8 32 rfl _ _ rfl i0 z0 hi0 hz0 hz1 hz2 hzs Try.underlying32 rfl rfl (by omega) HW2.out.ext.size ?_)
                intro v' w' hw1 hw2 hw3
                have hW1 := HW2.out.symm.app hw1 hw2 hw3
                have hk0 := HW2.out.symm.app0 hw2
                obtain ⟨pv, cv, rfl⟩ := own_sl hw1
                have W1 := Lib.hid hW1
                have j8 := (cell_of hk0 0).trans rfl
                have j8l := lt_of hk0
                have j8f := frozen_of hk0 0
                clear hw1 hw2 hw3 hW1 hk0
                go_wp2
                go_meet
                exact ⟨_, rfl, W1.out.symm⟩
              · rw [if_neg ho] at hB2 hR2
                subst hB2 hR2
                have ho2 : (b % 2 == 0) = false := by simp; omega
                go_wp2_with fail
                go_meet
                exact ⟨v8, rfl, by rw [List.append_nil]; exact HW2.out⟩
            case rest =>
              obtain ⟨v8', rfl, hW3⟩ := hcut
              clear HW2 c8 l8 f8 hb1
              have c6 := (cell_of hW3.x6 0).trans rfl
              have l6 := lt_of hW3.x6
              have f6 := frozen_of hW3.x6 0
              have HW3 := Lib.hid hW3
              clear hW3
              by_cases hlt : b2 < a2
              · obtain ⟨p6, n6, q6, hv6⟩ : ∃ p n c, v6' = .slice p n c := by obtain ⟨p, c, h⟩ := own_sl HW3.out.o6; exact ⟨p, _, c, h⟩
                subst hv6
                go_wp2_with fail
                refine HD.out _ _ _ _ _ _ HW3.out.set ?_ ?_ ?_ rfl rfl
                · rw [List.length_append]; have := H6.out.1; omega
                · rw [List.length_append]; have := H6.out.2; omega
                · rw [HC.out, HS.out, if_pos hlt, List.reverse_append, H7.out, List.nil_append, List.append_assoc, List.append_assoc]
              · go_wp2_with fail
                go_roundw
                case rel =>
                  refine ⟨a2 / 2, b2 / 2, l + 1, pre ++ L, suf ++ R, v6', v8', by go_num, by go_num, by go_num, by omega, by omega, by omega, ?_, ?_, ?_, ?_, HW3.out⟩
                  · have e : (2 : Int) ^ (B - l) = 2 * 2 ^ (B - (l + 1)) := by rw [show B - l = B - (l + 1) + 1 by omega]; exact pw_succ _
                    omega
                  · rw [List.length_append]; have := H6.out.1; omega
                  · rw [List.length_append]; have := H6.out.2; omega
                  · rw [HC.out, HS.out, if_neg hlt, List.reverse_append, H7.out]; simp only [List.append_assoc]
                case measure => simp [intOf]; omega
end Go.Proofs.Ytfhdjekpdifajaa
namespace Go.Proofs.Ytfhdjekpdifajaa
set_option linter.unusedVariables false
open Go.RowKit
theorem two_bd (k : Nat) (h : k ≤ 59) : (1 : Int) ≤ 2 ^ k ∧ (2 : Int) ^ k ≤ 576460752303423488 := pow_bd k h
set_option maxRecDepth 20000 in
set_option maxHeartbeats 2000000 in
theorem TwoR_c (n : Nat) (hn : n ≤ 59) (w : World) :
    Calls Try.prog 17 #[.int .i64 n] w fun e w' => e = .returned (.int .u64 ((2 : Int) ^ n)) ∧ w = w' := by
  go_enter Try.func17, Try.ntmps17
  go_wp2
  go_loop [3, 4] (fun p u => ∃ (k : Nat) (q : Int), k ≤ n ∧ p = .int .u64 q ∧ u = .int .i64 k ∧ q = (2 : Int) ^ k) (fun _ u => n - (intOf u).toNat)
  case atStart => exact ⟨0, 1, Nat.zero_le _, rfl, rfl, rfl⟩
  case round =>
    obtain ⟨k, q, hk, rfl, rfl, hq⟩ := hrel
    have hb := two_bd k (by omega)
    rw [← hq] at hb
    obtain ⟨b1, b2⟩ := hb
    have HQ := Lib.hid hq
    clear hq
    by_cases hlt : k < n
    · have hlt' : (k : Int) < n := by omega
      go_wp2
      go_round
      case rel => exact ⟨k + 1, q + q, by omega, rfl, by push_cast; rfl, by rw [HQ.out, Int.pow_succ]; omega⟩
      case measure => simp [intOf]; omega
    · obtain rfl : k = n := by omega
      go_wp2
      go_ret
      exact ⟨by rw [← HQ.out]; rfl, rfl⟩
end Go.Proofs.Ytfhdjekpdifajaa
namespace Go.Proofs.Ytfhdjekpdifajaa
set_option linter.unusedVariables false
open Go.RowKit
theorem gLev_step {lo hi : Int} {B l : Nat} (hl : l < B) (hc : lo % 2 ^ (l + 1) = 0 ∧ (2 : Int) ^ (l + 1) - 1 ≤ hi - lo) : gLev lo hi (B - l) l = gLev lo hi (B - (l + 1)) (l + 1) := by
  rw [show B - l = (B - (l + 1)) + 1 by omega]
  conv => lhs; unfold gLev
  rw [if_pos hc]
theorem gLev_stop {lo hi : Int} {B l : Nat} (hlB : l ≤ B) (hc : ¬ (l < B ∧ lo % 2 ^ (l + 1) = 0 ∧ (2 : Int) ^ (l + 1) - 1 ≤ hi - lo)) : gLev lo hi (B - l) l = l := by
  rcases Nat.lt_or_ge l B with hl | hl
  · rw [show B - l = (B - (l + 1)) + 1 by omega]
    conv => lhs; unfold gLev
    rw [if_neg (fun h2 => hc ⟨hl, h2⟩)]
  · rw [show B - l = 0 by omega]
    rfl
theorem gCov_out {B : Nat} {hi lo : Int} (h : hi < lo) : ∀ f, gCov B hi f lo = []
  | 0 => rfl
  | f + 1 => by unfold gCov; rw [if_neg (by omega)]
def RCovPost (w : World) (B : Nat) (lo hi : Int) (e : Ending) (w' : World) : Prop :=
  ((hi < lo ∨ 2 ^ B ≤ hi) ∧ ∃ v, e = .returned (.tuple #[v, .bool false]) ∧ Ext w w') ∨
  ((lo ≤ hi ∧ hi < 2 ^ B) ∧ ∃ v, e = .returned (.tuple #[v, .bool true]) ∧ w'.ownsRow w.heap.size 41 2 v (covL B 0 lo hi).length (pcV (covL B 0 lo hi)) ∧ Ext w w')
set_option maxRecDepth 20000 in
set_option maxHeartbeats 8000000 in
theorem RCover_c (B : Nat) (hB1 : 1 ≤ B) (hB2 : B ≤ 59) (lo hi : Int) (hlo : U64 lo) (hhi : U64 hi) (w : World) :
    Calls Try.prog 6 #[.int .i64 B, .int .u64 lo, .int .u64 hi] w (RCovPost w B lo hi) := by
  obtain ⟨hlo0, hlo1⟩ := hlo
  obtain ⟨hhi0, hhi1⟩ := hhi
  have hpw := pow_bd B hB2
  have hb1' : (1 : Int) ≤ B := by omega
  by_cases h1 : hi < lo
  · go_enter Try.func6, Try.ntmps6
    go_wp2
    go_ret2
    exact .inl ⟨.inl h1, _, rfl, Ext.alloc' _ _⟩
  · have HTW := Lib.hid (fun W' => TwoR_c B hB2 W')
    by_cases h2 : 2 ^ B ≤ hi
    · have H2 := Lib.hid h2
      obtain ⟨p, hpp⟩ : ∃ p, (2 : Int) ^ B = p := ⟨_, rfl⟩
      rw [hpp] at hpw h2
      have hHT : ∀ W' : World, Calls Try.prog 17 #[.int .i64 B] W' fun e w' => e = .returned (.int .u64 p) ∧ W' = w' := fun W' => by rw [← hpp]; exact TwoR_c B hB2 W'
      have HHT := Lib.hid hHT
      clear hpp hHT HTW
      go_enter Try.func6, Try.ntmps6
      go_wp2_with fail
      refine (HHT.out _).mono ?_
      rintro e w1 ⟨rfl, rfl⟩
      go_wp2
      go_ret2
      exact .inl ⟨.inr H2.out, _, rfl, Ext.alloc' _ _⟩
    · have HF := Lib.hid (show (lo ≤ hi ∧ hi < 2 ^ B) from ⟨by omega, by omega⟩)
      obtain ⟨f0, hf0⟩ : ∃ f0 : Nat, f0 = (hi + 1 - lo).toNat + 2 * B + 2 := ⟨_, rfl⟩
      have HST := Lib.hid (cov_same hlo0 HF.out.1 HF.out.2 (f := f0) (by omega))
      have hf0' : hi + 1 - lo < f0 := by omega
      have HB59 := Lib.hid hB2
      obtain ⟨i0, z0, hi0, hz0, hz1, hz2, hzs⟩ := info_pc
      obtain ⟨p, hpp⟩ : ∃ p, (2 : Int) ^ B = p := ⟨_, rfl⟩
      rw [hpp] at hpw h2
      have hHT : ∀ W' : World, Calls Try.prog 17 #[.int .i64 B] W' fun e w' => e = .returned (.int .u64 p) ∧ W' = w' := fun W' => by rw [← hpp]; exact TwoR_c B hB2 W'
      have HHT := Lib.hid hHT
      clear hf0 hpp hHT HTW
      go_enter Try.func6, Try.ntmps6
      go_wp2_with fail
      refine (HHT.out _).mono ?_
      rintro e w1 ⟨rfl, rfl⟩
      have ho0 : (w.alloc (.cells #[] 41)).ownsRow w.heap.size 41 2 (.slice (some ⟨w.heap.size, 0, none⟩) 0 0) ([] : List (Nat × Int)).length (pcV []) := ⟨rfl, .inr ⟨w.heap.size, 0, #[], rfl, Nat.le_refl _, heap_at _ _ rfl, Nat.le_refl _, Nat.zero_le _, rfl, rfl⟩⟩
      have HO0 := Lib.hid ho0
      clear ho0
      go_wp2_with fail
      go_loopw [1, 8] (fun u1 u8 wr => ∃ (a : Int) (f : Nat) (pre : List (Nat × Int)), u1 = .int .u64 a ∧ 0 ≤ a ∧ a ≤ hi + 1 ∧ hi + 1 - a < f ∧ pre ++ gCov B hi f a = covL B 0 lo hi ∧ wr.ownsRow w.heap.size 41 2 u8 pre.length (pcV pre) ∧ Ext w wr) (fun u1 _ _ => (hi + 1 - intOf u1).toNat)
      case atStart => exact ⟨lo, f0, [], rfl, hlo0, by omega, hf0', by rw [List.nil_append]; exact HST.out, HO0.out, Ext.alloc' _ _⟩
      case round =>
        clear HO0 HST hf0'
        obtain ⟨a, f, pre, rfl, ha0, ha1, hf, hcov, hown, hE⟩ := hrel
        obtain ⟨pv, cv, rfl⟩ := own_sl hown
        have HO := Lib.hid hown
        have HE := Lib.hid hE
        have hlen : pre.length ≤ 1000000000 := by
          have h3 := congrArg List.length hcov
          rw [List.length_append] at h3
          have h4 := cov_len B 0 lo hi
          omega
        have HLEN := Lib.hid hlen
        clear hown hlen
        by_cases hgo : a ≤ hi
        · obtain ⟨f, rfl⟩ : ∃ f', f = f' + 1 := ⟨f - 1, by omega⟩
          have hgc : gCov B hi (f + 1) a = (gLev a hi B 0, a / 2 ^ gLev a hi B 0) :: gCov B hi f (a + 2 ^ gLev a hi B 0) := by
            conv => lhs; unfold gCov
            rw [if_pos hgo]
          rw [hgc] at hcov
          have HC := Lib.hid hcov
          clear hcov hgc
          go_wp2_with fail
          go_loopw [9] (fun u9 wx => ∃ l : Nat, u9 = .int .i64 l ∧ l ≤ B ∧ gLev a hi (B - l) l = gLev a hi B 0 ∧ (2 : Int) ^ l - 1 ≤ hi - a ∧ wx = wr) (fun u9 _ => B - (intOf u9).toNat)
          case atStart => exact ⟨0, rfl, Nat.zero_le _, rfl, by show (1 : Int) - 1 ≤ _; omega, rfl⟩
          case round =>
            obtain ⟨l, rfl, hlB, hgl, hbd, rfl⟩ := hrel
            rename World => wr
            have HGL := Lib.hid hgl
            have HBD := Lib.hid hbd
            clear hgl hbd
            go_upto_region 6 with (fail)
            go_cut [52] (fun s52 wx => s52 = .bool (decide (l < B ∧ a % 2 ^ (l + 1) = 0 ∧ (2 : Int) ^ (l + 1) - 1 ≤ hi - a)) ∧ wx = wr)
            case first =>
              by_cases hl : l < B
              · have hlz : (l : Int) < B := by omega
                have hqb := pow_bd (l + 1) (by omega)
                have hT : ∀ W' : World, Calls Try.prog 17 #[.int .i64 ((l : Int) + 1)] W' fun e w' => e = .returned (.int .u64 ((2 : Int) ^ (l + 1))) ∧ W' = w' := fun W' => by
                  have h := TwoR_c (l + 1) (by omega) W'
                  rwa [show ((l + 1 : Nat) : Int) = (l : Int) + 1 by omega] at h
                have HT := Lib.hid hT
                clear hT
                generalize (2 : Int) ^ (l + 1) = q at *
                have hq0 : (q == 0) = false := by simp; omega
                have htm : a.tmod q = a % q := Int.tmod_eq_emod_of_nonneg ha0
                by_cases hm : a % q = 0
                · have hm' : (a % q == 0) = true := by simpa using hm
                  have hz : a.tmod q = 0 := htm.trans hm
                  go_wp2_with (go_at_call 17; refine (HT.out _).mono ?_; rintro e w1 ⟨rfl, rfl⟩)
                  go_meet
                  refine ⟨congrArg Value.bool ?_, rfl⟩
                  by_cases hx : q - 1 ≤ hi - a
                  · simp [hl, hm, hx]
                  · simp [hl, hm, hx]
                · have hm' : (a % q == 0) = false := by simpa using hm
                  go_wp2_with (go_at_call 17; refine (HT.out _).mono ?_; rintro e w1 ⟨rfl, rfl⟩)
                  go_meet
                  exact ⟨congrArg Value.bool (decide_eq_false (fun h => hm h.2.1)).symm, rfl⟩
              · have hlz : ¬ (l : Int) < B := by omega
                go_wp2_with fail
                go_meet
                exact ⟨congrArg Value.bool (decide_eq_false (fun h => hl h.1)).symm, rfl⟩
            case rest =>
              obtain ⟨rfl, rfl⟩ := hcut
              rename World => wr
              by_cases hc : l < B ∧ a % 2 ^ (l + 1) = 0 ∧ (2 : Int) ^ (l + 1) - 1 ≤ hi - a
              · rw [decide_eq_true hc]
                have HCC := Lib.hid hc
                have hl := hc.1
                clear hc
                go_wp2_with fail
                go_roundw
                case rel =>
                  exact ⟨l + 1, by go_num, hl, (gLev_step hl HCC.out.2).symm.trans HGL.out, HCC.out.2.2, by first | rfl | trivial⟩
                case measure => simp [intOf]; omega
              · rw [decide_eq_false hc]
                have hlev : gLev a hi B 0 = l := HGL.out.symm.trans (gLev_stop hlB hc)
                have hcv := HC.out
                rw [hlev] at hcv
                have hqb := pow_bd l (by omega)
                have hbd := HBD.out
                have hT : ∀ W' : World, Calls Try.prog 17 #[.int .i64 l] W' fun e w' => e = .returned (.int .u64 ((2 : Int) ^ l)) ∧ W' = w' := fun W' => TwoR_c l (by omega) W'
                have HT := Lib.hid hT
                clear hc hlev hT HC HBD HGL
                generalize (2 : Int) ^ l = q at *
                have hq0 : (q == 0) = false := by simp; omega
                have htd : a.tdiv q = a / q := Int.tdiv_eq_ediv_of_nonneg ha0
                have hm0 : 0 ≤ a / q := Int.ediv_nonneg ha0 (by omega)
                have hm1 : a / q ≤ a := Int.ediv_le_self _ ha0
                generalize a / q = m at *
                have hm2 : m < 18446744073709551616 := by omega
                have HCV := Lib.hid hcv
                clear hcv
                go_wp2_with fail
                refine (HT.out _).mono ?_
                rintro e w1 ⟨rfl, rfl⟩
                go_wp2_with (at_builtin; refine wpList_appp _ (l, m) pre _ w.heap.size 41 41 HO.out 32 rfl _ _ rfl i0 z0 hi0 hz0 hz1 hz2 hzs Try.underlying32 rfl rfl HLEN.out HE.out.size ?_)
                intro v' w2 hw1 hw2 hw3
                have hE2 : Ext w w2 := ext_grown HE.out hw2 (fun k hk => own_blk HO.out hk)
                obtain ⟨pv2, cv2, rfl⟩ := own_sl hw1
                have HW1 := Lib.hid hw1
                clear hw1 hw2 hw3
                go_wp2_with fail
                refine (HT.out _).mono ?_
                rintro e w3 ⟨rfl, rfl⟩
                go_wp2_with fail
                go_roundw
                case rel =>
                  refine ⟨a + q, f, pre ++ [(l, m)], by go_num, by omega, by omega, by omega, ?_, by rw [List.length_append]; exact HW1.out, hE2⟩
                  rw [List.append_assoc]; exact HCV.out
                case measure => simp [intOf]; omega
        · have hc : pre = covL B 0 lo hi := by rw [← hcov, gCov_out (by omega), List.append_nil]
          have HC := Lib.hid hc
          clear hcov hc
          go_wp2
          go_ret2
          exact .inr ⟨HF.out, _, rfl, by rw [← HC.out]; exact HO.out, HE.out⟩
end Go.Proofs.Ytfhdjekpdifajaa
namespace Go.Proofs.Ytfhdjekpdifajaa
set_option linter.unusedVariables false
open Go.RowKit
attribute [local go_sem] Oper.semAt_some
/-- A slice of pieces that lies below a block. -/
def PcsAt (n₀ : Nat) (W : World) (v : Value) (ps : List (Nat × Int)) : Prop :=
  (v = .slice none 0 0 ∧ ps = []) ∨ ∃ g cap, v = .slice (some ⟨g, 0, none⟩) ps.length cap ∧ g < n₀ ∧ PCells W g 0 ps
theorem PcsAt.below {n₀ : Nat} {A B : World} {v : Value} {ps : List (Nat × Int)} (h : PcsAt n₀ A v ps) (hb : Below n₀ A B) : PcsAt n₀ B v ps := by
  rcases h with h | ⟨g, cap, h1, h2, h3⟩
  · exact .inl h
  · exact .inr ⟨g, cap, h1, h2, fun k hk => ⟨(hb.cell (p := ⟨g, _, none⟩) h2).trans (h3 k hk).1, (hb.cell (p := ⟨g, _, none⟩) h2).trans (h3 k hk).2⟩⟩
theorem PcsAt.of_own {w : World} {base n₀ : Nat} {e : TypeId} {v : Value} {ps : List (Nat × Int)} (h : w.ownsRow base e 2 v ps.length (pcV ps)) (hn : w.heap.size ≤ n₀) : PcsAt n₀ w v ps := by
  rcases h.2 with ⟨h1, h2⟩ | ⟨g, cap, cur, rfl, _, hh, hc, _, hs, ht⟩
  · exact .inl ⟨h1, List.length_eq_zero_iff.1 h2⟩
  · refine .inr ⟨g, cap, rfl, Nat.lt_of_lt_of_le (lt_of hh) hn, fun k hk => ?_⟩
    obtain ⟨a1, a2⟩ := pcV_at hk
    rw [← ht] at a1 a2
    rw [List.getElem?_take_of_lt (by omega)] at a1 a2
    simp only [Array.getElem?_toList] at a1 a2
    rw [cell_of hh, cell_of hh, Nat.zero_add]
    exact ⟨a1, a2⟩
def pcEnc (ps : List (Nat × Int)) (x : {p : Nat × Int // p ∈ ps}) : Array Value := #[.agg #[.int .i64 (x.1.1 : Int), .int .u64 x.1.2]]
theorem getD_in {ps : List (Nat × Int)} {k : Nat} (h : k < ps.length) : ps.getD k (0, 0) ∈ ps := by simp [h]
set_option maxRecDepth 100000 in
set_option maxHeartbeats 2000000 in
theorem values1_in (n l Bs n₀ g cap : Nat) (ps : List (Nat × Int)) (hg : g < n₀) (hl : ps.length ≤ 1000000) (J Jx : List {p : Nat × Int // p ∈ ps} → World → Prop)
    (W : World) (hW : n₀ ≤ W.heap.size) (hJ : AbidesFrom W.heap.size J)
    (hY : ∀ pre x W, J pre W → pre.length < ps.length → YieldAt Fence.wide (n - 1) Try.prog l (pcEnc ps x) W fun e W' =>
      (e = .returned (.bool true) ∧ J (pre ++ [x]) W' ∧ Below n₀ W W') ∨ (e = .returned (.bool false) ∧ Jx (pre ++ [x]) W'))
    (hBs : W.cell? ⟨Bs, 0, none⟩ = some (.slice (some ⟨g, 0, none⟩) ps.length cap)) (hc : PCells W g 0 ps) (h0 : J [] W) :
    CallsIn Fence.wide n Try.prog 36 #[.func (.yield l) #[] #[], .pointer (some ⟨Bs, 0, none⟩)] W fun e W' => (∃ v, e = .returned v) ∧
      ((∃ ys, ys.map (fun x : {p : Nat × Int // p ∈ ps} => x.1) = ps ∧ J ys W') ∨ (∃ pre, True ∧ Jx pre W')) := by
  refine callsIn_of_wp Try.func36 rfl trivial ?_ rfl
  simp only [Try.ntmps36, List.size_toArray, List.length_cons, List.length_nil, Nat.reduceAdd, Nat.reduceSub, Array.replicate_succ, Array.replicate_zero, List.push_toArray, List.append_toArray, List.nil_append, List.cons_append]
  gi_wp2
  generalize hn : ps.length = m at *
  have HN := Lib.hid hn
  clear hn
  gi_loopw [7] (fun i wr => ∃ (k : Nat) (pre : List {p : Nat × Int // p ∈ ps}), k ≤ m ∧ i = .int .i64 k ∧ pre.map (fun x : {p : Nat × Int // p ∈ ps} => x.1) = ps.take k ∧ J pre wr ∧ Below n₀ W wr)
    (fun i _ => m - (intOf i).toNat)
  case atStart => exact ⟨0, [], Nat.zero_le _, rfl, rfl, h0, Below.refl _ _⟩
  case round =>
    obtain ⟨k, pre, hk, rfl, hpre, hJs, hnx⟩ := hrel
    have hlen : pre.length = k := by
      have := congrArg List.length hpre
      rw [List.length_map, List.length_take, HN.out] at this
      omega
    by_cases hlt : k < m
    · have hkp : k < ps.length := by rw [HN.out]; exact hlt
      have hgw : g < wr.heap.size := by have := hnx.size; omega
      obtain ⟨d0, d1⟩ := hc k hkp
      rw [Nat.zero_add] at d0 d1
      have c0 := (hnx.cell (p := ⟨g, k * 2, none⟩) hg).trans d0
      have c1 := (hnx.cell (p := ⟨g, k * 2 + 1, none⟩) hg).trans d1
      have hmem := getD_in hkp
      have htk : ps.take (k + 1) = ps.take k ++ [ps.getD k (0, 0)] := by
        rw [List.take_succ_eq_append_getElem hkp]; simp [hkp]
      generalize ps.getD k (0, 0) = p at *
      obtain ⟨p1, p2⟩ := p
      dsimp only at c0 c1 d0 d1
      have hJn : J pre (wr.alloc (.cells #[.int .i64 (p1 : Int), .int .u64 p2] 41)) := hJ pre wr _ none hJs (World.grownBy_alloc wr _ none) (fun r e => by cases e)
      obtain ⟨fn, tmps, assign, body, hy, hR⟩ := hY pre ⟨(p1, p2), hmem⟩ _ hJn (by omega)
      have hbel : Below n₀ W (wr.alloc (.cells #[.int .i64 (p1 : Int), .int .u64 p2] 41)) := hnx.alloc (by have := hnx.size; omega) _
      dsimp only [pcEnc] at hy
      gi_wp2
      refine ⟨fun h => (by cases h), hR.mono ?_⟩
      rintro e W3 (⟨rfl, hJ3, hk3⟩ | ⟨rfl, hJx3⟩)
      · gi_wp2
        go_roundw
        case rel => exact ⟨k + 1, pre ++ [⟨(p1, p2), hmem⟩], by omega, by simp, by rw [List.map_append, hpre, htk]; rfl, hJ3, hbel.trans hk3⟩
        case measure => simp [intOf]; omega
      · gi_wp2
        refine bodyPost_ret (results_none rfl _ _ _) rfl ?_
        exact ⟨⟨_, rfl⟩, .inr ⟨_, trivial, hJx3⟩⟩
    · obtain rfl : k = m := by omega
      gi_wp2
      go_end0
      exact ⟨⟨_, rfl⟩, .inl ⟨pre, by rw [hpre, ← HN.out, List.take_length], hJs⟩⟩
set_option maxRecDepth 100000 in
set_option maxHeartbeats 1000000 in
theorem values1_nil (n l Bs : Nat) (J : List {p : Nat × Int // p ∈ ([] : List (Nat × Int))} → World → Prop) (W : World) (hBs : W.cell? ⟨Bs, 0, none⟩ = some (.slice none 0 0)) (h0 : J [] W) :
    CallsIn Fence.wide n Try.prog 36 #[.func (.yield l) #[] #[], .pointer (some ⟨Bs, 0, none⟩)] W fun e W' => (∃ v, e = .returned v) ∧ J [] W' := by
  refine callsIn_of_wp Try.func36 rfl trivial ?_ rfl
  simp only [Try.ntmps36, List.size_toArray, List.length_cons, List.length_nil, Nat.reduceAdd, Nat.reduceSub, Array.replicate_succ, Array.replicate_zero, List.push_toArray, List.append_toArray, List.nil_append, List.cons_append]
  gi_wp2
  gi_loopw [7] (fun i wr => i = .int .i64 0 ∧ J [] wr) (fun _ _ => 0)
  case atStart => exact ⟨rfl, h0⟩
  case round =>
    obtain ⟨rfl, hJs⟩ := hrel
    gi_wp2
    go_end0
    exact ⟨⟨_, rfl⟩, hJs⟩
theorem Values_c (p : Option Addr) (n c : Nat) (w : World) :
    Calls Try.prog 22 #[.slice p n c] w fun e w' => e = .returned (.func (.func 36) #[] #[.pointer (some ⟨w.heap.size, 0, none⟩)]) ∧
      w' = w.alloc (.cells #[.slice p n c] 32) := by
  have hmf : ∀ (fn : Fn) (first cap : Array Value) (w : World), (Instr.makeFunc fn first cap).run Try.prog w = .ok (.func fn first cap) w := fun _ _ _ _ => rfl
  go_enter Try.func22, Try.ntmps22
  go_wp2
  go_ret
  exact ⟨rfl, rfl⟩
theorem values_stops (n Bs n₀ : Nat) (sv : Value) (ps : List (Nat × Int)) (hl : ps.length ≤ 1000000) (w : World) (hBs : Bs < w.heap.size) (hn₀ : n₀ ≤ w.heap.size)
    (hc : w.cell? ⟨Bs, 0, none⟩ = some sv) (hI : PcsAt n₀ w sv ps) :
    SeqStopsK Fence.wide n Try.prog 36 #[.pointer (some ⟨Bs, 0, none⟩)] (pcEnc ps) (Below n₀) (fun ys => ys.map (fun x : {p : Nat × Int // p ∈ ps} => x.1) = ps) (fun _ => True) ps.length w := by
  intro l J Jx W hW hJ hJx hY h0
  have hc' := (hW.cell (p := ⟨Bs, 0, none⟩) hBs).trans hc
  have hsz := hW.size
  rcases hI.below (hW.mono hn₀) with ⟨rfl, hp⟩ | ⟨g, cap, rfl, hg, hcs⟩
  · subst hp
    exact (values1_nil n l Bs J W hc' h0).mono fun e W' ⟨he, hj⟩ => ⟨he, .inl ⟨[], rfl, hj⟩⟩
  · exact values1_in n l Bs n₀ g cap ps hg hl J Jx W (by omega) hJ hY hc' hcs h0
end Go.Proofs.Ytfhdjekpdifajaa
