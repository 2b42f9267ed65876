/- Part. No condition. -/
import Derived.Test.YtfhdjekpdifajaaGreatDLevelPlays9
import Derived.Test.YtfhdjekpdifajaaGreatDLevelPlays6
import Derived.Test.YtfhdjekpdifajaaGreatDLevelPlays8
import Derived.Test.YtfhdjekpdifajaaGreatDLevelPlays3
import Derived.Test.YtfhdjekpdifajaaGreatDLevelPlays4
namespace Go.Proofs.YtfhdjekpdifajaaGreat
set_option linter.unusedVariables false
open Go.RowKit
set_option maxRecDepth 20000 in
set_option maxHeartbeats 8000000 in
theorem Inner_c (s b c s2 b2 c2 : Nat) (C : Cfg) (lv : Int) (R W : Nat) (l m : List Int) (w : World) (h : SAt w s b c C lv R W l) (h2 : SAt w s2 b2 c2 C lv R W m) (hm : C.mode = 1) :
    Calls Tryz.prog 119 #[.pointer (some ⟨s, 0, none⟩), .pointer (some ⟨s2, 0, none⟩)] w fun e w' => e = .returned (innV (innF l m W R)) ∧ Ext w w' := by
  have H := Lib.hid h
  have H2 := Lib.hid h2
  have hm' : (C.mode != 1) = false := by simp [hm]
  have hR := h.hr
  have hW := h.hw
  have hR1 := h.g.r1
  have hR8 := h.g.r2
  have hW1 := h.g.w1
  have hW8 := h.g.w2
  have HR := Lib.hid hR
  have HW := Lib.hid hW
  have HL := Lib.hid h.g.len
  have HL2 := Lib.hid h2.g.len
  have HI := Lib.hid h.fit
  have HI2 := Lib.hid h2.fit
  clear h h2 hm hR hW
  go_enter Tryz.func119, Tryz.ntmps119
  go_upto_region 1 with (fail)
  have hz0 := heap_at w (.cells #[.int .i64 0, .int .u64 0] 75) rfl
  have hE0 : Ext w (w.alloc (.cells #[.int .i64 0, .int .u64 0] 75)) := Ext.alloc' _ _
  generalize w.alloc (.cells #[.int .i64 0, .int .u64 0] 75) = w0 at *
  have HZ0 := Lib.hid hz0
  clear hz0
  go_cut [34] (fun s34 wx => s34 = .bool false ∧ Ext w0 wx)
  case first =>
    go_wp2_with (first | (go_at_call 168; refine (SConfig_c s b c C lv R W l _ (H.out.ext (by (repeat' (first | exact Ext.refl _ | assumption | apply Ext.allocR | apply Ext.drewR | apply Ext.drewNR | (refine Ext.trans' ?_ (by assumption))))))).mono ?_; rintro e w1 ⟨rfl, hb1⟩) | (go_at_call 168; refine (SConfig_c s2 b2 c2 C lv R W m _ (H2.out.ext (by (repeat' (first | exact Ext.refl _ | assumption | apply Ext.allocR | apply Ext.drewR | apply Ext.drewNR | (refine Ext.trans' ?_ (by assumption))))))).mono ?_; rintro e w2 ⟨rfl, hb2⟩) | (go_at_call 169; refine (SLevel_c s b c C lv R W l _ (H.out.ext (by (repeat' (first | exact Ext.refl _ | assumption | apply Ext.allocR | apply Ext.drewR | apply Ext.drewNR | (refine Ext.trans' ?_ (by assumption))))))).mono ?_; rintro e w3 ⟨rfl, rfl⟩) | (go_at_call 169; refine (SLevel_c s2 b2 c2 C lv R W m _ (H2.out.ext (by (repeat' (first | exact Ext.refl _ | assumption | apply Ext.allocR | apply Ext.drewR | apply Ext.drewNR | (refine Ext.trans' ?_ (by assumption))))))).mono ?_; rintro e w4 ⟨rfl, rfl⟩))
    go_meet
    exact ⟨by first | rfl | simp, by (repeat' (first | exact Ext.refl _ | assumption | apply Ext.allocR | apply Ext.drewR | apply Ext.drewNR | (refine Ext.trans' ?_ (by assumption))))⟩
  case rest =>
    obtain ⟨rfl, hEc⟩ := hcut
    go_wp2_with fail
    refine Calls.mono (SConfig_c s b c C lv R W l _ (H.out.ext ?hx)) ?_
    case hx => (repeat' (first | exact Ext.refl _ | assumption | apply Ext.allocR | apply Ext.drewR | apply Ext.drewNR | (refine Ext.trans' ?_ (by assumption))))
    rintro e w1 ⟨rfl, hb1⟩
    have hE1 : Ext w0 w1 := by (repeat' (first | exact Ext.refl _ | assumption | apply Ext.allocR | apply Ext.drewR | apply Ext.drewNR | (refine Ext.trans' ?_ (by assumption))))
    have hCb : CfgAt (w1.alloc (.cells #[.int .i64 C.bits, .int .i64 C.rows, .int .i64 C.width, .int .i64 C.mode, .int .u64 C.seed] 24)) w1.heap.size C := CfgAt.box C _ rfl
    have hEB : Ext w1 (w1.alloc (.cells #[.int .i64 C.bits, .int .i64 C.rows, .int .i64 C.width, .int .i64 C.mode, .int .u64 C.seed] 24)) := Ext.alloc' _ _
    clear hb1 hEc
    go_wp2_with fail
    generalize w1.alloc (.cells #[.int .i64 C.bits, .int .i64 C.rows, .int .i64 C.width, .int .i64 C.mode, .int .u64 C.seed] 24) = w2 at *
    have hE2 := hE1.trans' hEB
    refine Calls.mono (SCells_c s b c C lv R W l _ (H.out.ext (by (repeat' (first | exact Ext.refl _ | assumption | apply Ext.allocR | apply Ext.drewR | apply Ext.drewNR | (refine Ext.trans' ?_ (by assumption))))))) ?_
    rintro e w3 ⟨v3, rfl, ho3, _, hx3⟩
    have hE3 : Ext w2 w3 := hx3
    have hi3 := IntsAt.of_row ho3
    obtain ⟨g1, o1, k1, rfl, hg1, hc1⟩ := hi3.slice (by rw [HL.out]; exact Nat.mul_pos hR1 hW1)
    obtain ⟨cp1, hcp1⟩ : ∃ c1, R * W ≤ k1 := ⟨0, by
      have h2 := ho3.2.resolve_left (fun h => by cases h.1)
      obtain ⟨g', cap', cur, hv', _, _, hc', _⟩ := h2
      have := (Value.slice.inj hv').2.2
      rw [HL.out] at hc'
      omega⟩
    rw [HL.out] at hi3 hc1 ⊢
    have HC1 := Lib.hid hc1
    clear ho3 hx3 hi3 hc1
    go_wp2_with fail
    refine Calls.mono (SCells_c s2 b2 c2 C lv R W m _ (H2.out.ext (by (repeat' (first | exact Ext.refl _ | assumption | apply Ext.allocR | apply Ext.drewR | apply Ext.drewNR | (refine Ext.trans' ?_ (by assumption))))))) ?_
    rintro e w4 ⟨v4, rfl, ho4, _, hx4⟩
    have hE4 : Ext w3 w4 := hx4
    have hi4 := IntsAt.of_row ho4
    obtain ⟨g2, o2, k2, rfl, hg2, hc2⟩ := hi4.slice (by rw [HL2.out]; exact Nat.mul_pos hR1 hW1)
    obtain ⟨cp2, hcp2⟩ : ∃ c1, R * W ≤ k2 := ⟨0, by
      have h2 := ho4.2.resolve_left (fun h => by cases h.1)
      obtain ⟨g', cap', cur, hv', _, _, hc', _⟩ := h2
      have := (Value.slice.inj hv').2.2
      rw [HL2.out] at hc'
      omega⟩
    rw [HL2.out] at hi4 hc2 ⊢
    have HC2 := Lib.hid hc2
    have hCb4 := hCb.ext (hE3.trans' hE4)
    have c1' := hCb4.c1
    have cl := hCb4.lt
    rw [HR.out] at c1'
    clear ho4 hx4 hi4 hc2
    have hE24 := hE3.trans' hE4
    have hEw4 : Ext w w4 := hE0.trans' (hE2.trans' hE24)
    have hz4 := (hE2.trans' hE24).keep HZ0.out
    have HZ4 := Lib.hid hz4
    have hg13 : g1 < w4.heap.size := Nat.lt_of_lt_of_le hg1 hE4.size
    have hc14 : ∀ j, j < R * W → w4.cell? ⟨g1, o1 + j, none⟩ = some (.int .i64 (l.getD j 0)) := fun j hj => ((bcell hE4).1 g1 _ hg1).trans (HC1.out j hj)
    have HC14 := Lib.hid hc14
    have HCB4 := Lib.hid hCb4
    have hN2 : R * W ≤ 1024 := Nat.le_trans (Nat.mul_le_mul hR8 hW8) (by decide)
    clear hz4 hc14 hCb4 hCb hE24 hE3 hE4 hE2 hE1 hEB HZ0 HC1 H H2
    go_wp2_with fail
    go_loopw [48] (fun u wr => ∃ (r : Nat) (best : Int), r ≤ R ∧ u = .int .i64 r ∧ innF l m W r = some best ∧ Ext w4 wr ∧ wr.heap[w4.heap.size]? = some (.cells #[.int .i64 (hi best), .int .u64 (lo best)] 75 (0, 0))) (fun u _ => R - (intOf u).toNat)
    case atStart => exact ⟨0, 0, Nat.zero_le _, rfl, rfl, Ext.alloc' _ _, heap_at _ _ rfl⟩
    case round =>
      obtain ⟨r, best, hr, rfl, hin, hE, hg9⟩ := hrel
      clear c1' cl
      by_cases hgo : r < R
      · have hCr := HCB4.out.ext hE
        have c2' := hCr.c2
        have cl := hCr.lt
        rw [HW.out] at c2'
        obtain ⟨f, hf⟩ : ∃ f, r * W = f := ⟨_, rfl⟩
        have hf1 : (r : Int) * (W : Int) = (f : Int) := by rw [← hf]; simp
        have hf2 : ((r : Int) + 1) * (W : Int) = ((f + W : Nat) : Int) := by rw [Int.add_mul, hf1]; simp
        have hfN : f + W ≤ R * W := by rw [← hf, ← Nat.succ_mul]; exact Nat.mul_le_mul_right _ hgo
        have hf1b : f + W ≤ 1024 := by omega
        have HIN := Lib.hid hin
        have HG9 := Lib.hid hg9
        have HFF := Lib.hid hf
        clear hin hg9 hCr hf
        go_wp2_with fail
        refine wp_region_after (by kernel_rfl) (by kernel_rfl) ?_
        repeat (go_big_quiet_step (fail))
        refine wpQuiet_nil ?_
        rintro _ ⟨xx, rfl⟩
        obtain ⟨wq, hq⟩ := xx
        try dsimp only
        obtain ⟨dt, hdt⟩ : ∃ dt, dotF (rowP l W r) (rowP m W r) W = dt := ⟨_, rfl⟩
        obtain ⟨rh, rl, ok, hdv, hok1, hok0⟩ : ∃ (rh rl : Int) (ok : Bool), dotV dt = .tuple #[.agg #[.int .i64 rh, .int .u64 rl], .bool ok] ∧ (ok = true → ∃ n, dt = some n ∧ rh = hi n ∧ rl = lo n) ∧ (ok = false → dt = none) := by
          cases dt with
          | none => exact ⟨0, 0, false, rfl, (fun h => by cases h), (fun _ => rfl)⟩
          | some n => exact ⟨hi n, lo n, true, rfl, (fun _ => ⟨n, rfl, rfl, rfl⟩), (fun h => by cases h)⟩
        have hEq : Ext w4 wq := hE.trans' hq
        have hi1 : ∀ (cc : Nat) (w' : World), Ext w4 w' → IntsAt w' (.slice (some ⟨g1, o1 + f, none⟩) W cc) (rowP l W r) := fun cc w' hE' => .inr ⟨g1, o1 + f, cc, by rw [rowP_len], Nat.lt_of_lt_of_le hg13 hE'.size, fun k hk => by
          rw [rowP_len] at hk
          rw [rowP_get _ hk, HFF.out, Nat.add_assoc]
          exact ((bcell hE').1 g1 _ hg13).trans (HC14.out (f + k) (by omega))⟩
        have hi2 : ∀ (cc : Nat) (w' : World), Ext w4 w' → IntsAt w' (.slice (some ⟨g2, o2 + f, none⟩) W cc) (rowP m W r) := fun cc w' hE' => .inr ⟨g2, o2 + f, cc, by rw [rowP_len], Nat.lt_of_lt_of_le hg2 hE'.size, fun k hk => by
          rw [rowP_len] at hk
          rw [rowP_get _ hk, HFF.out, Nat.add_assoc]
          exact ((bcell hE').1 g2 _ hg2).trans (HC2.out (f + k) (by omega))⟩
        have hdot : ∀ (cc cc2 : Nat) (w' : World), Ext w4 w' → Calls Tryz.prog 122 #[.slice (some ⟨g1, o1 + f, none⟩) W cc, .slice (some ⟨g2, o2 + f, none⟩) W cc2] w' fun e w'' => e = .returned (.tuple #[.agg #[.int .i64 rh, .int .u64 rl], .bool ok]) ∧ Ext w' w'' := by
          intro cc cc2 w' hE'
          have := Dot_c (rowP l W r) (rowP m W r) _ _ w' (rowP_all HI.out W r) (rowP_all HI2.out W r) (by rw [rowP_len, rowP_len]) (by rw [rowP_len]; omega) (hi1 cc w' hE') (hi2 cc2 w' hE')
          rw [rowP_len, hdt, hdv] at this
          exact this
        have HDOT := Lib.hid hdot
        have HDT := Lib.hid hdt
        have HOK1 := Lib.hid hok1
        have HOK0 := Lib.hid hok0
        clear hi1 hi2 hdot hdv hok1 hok0 hdt c2' cl hf1 hf2
        go_upto_region 12 with (fail)
        go_cut [13, 14] (fun s13 s14 wx => ∃ z : Nat, s13 = .pointer (some ⟨z, 0, none⟩) ∧ s14 = .bool ok ∧ wx.heap[z]? = some (.cells #[.int .i64 rh, .int .u64 rl] 75 (0, 0)) ∧ Ext wq wx ∧ wq.heap.size ≤ z)
        case first =>
          have hC0 := af_drew wq
          refine pi_start (fun w' => ∃ x : After wq, w' = x.w) [] (by kernel_rfl) ?_
          refine pi_t 0 rfl (by kernel_rfl) (by kernel_rfl) (fun _ _ _ _ h => h) (fun K hK => ?_)
          go_big_quiet_op
          refine hK _ ?_
          clear hK K
          refine pi_t 1 rfl (by kernel_rfl) (by kernel_rfl) (fun _ _ _ _ h => h) (fun K hK => ?_)
          go_big_quiet_op
          refine hK _ ?_
          clear hK K
          refine pi_t 2 rfl (by kernel_rfl) (by kernel_rfl) (fun _ _ _ _ h => h) (fun K hK => ?_)
          go_big_quiet_op
          refine hK _ ?_
          clear hK K
          refine pi_t 3 rfl (by kernel_rfl) (by kernel_rfl) (fun _ _ _ _ h => h) (fun K hK => ?_)
          go_big_quiet_op
          refine hK _ ?_
          clear hK K
          refine pi_t 4 rfl (by kernel_rfl) (by kernel_rfl) (fun _ _ _ _ h => h) (fun K hK => ?_)
          go_big_quiet_op
          refine hK _ ?_
          clear hK K
          refine pi_t 5 rfl (by kernel_rfl) (by kernel_rfl) (fun _ _ _ _ h => h) (fun K hK => ?_)
          go_big_quiet_op
          refine hK _ ?_
          clear hK K
          refine pi_t 6 rfl (by kernel_rfl) (by kernel_rfl) (fun _ _ _ _ h => h) (fun K hK => ?_)
          go_big_quiet_op
          refine hK _ ?_
          clear hK K
          refine pi_t 7 rfl (by kernel_rfl) (by kernel_rfl) (fun _ _ _ _ h => h) (fun K hK => ?_)
          go_big_quiet_op
          refine hK _ ?_
          clear hK K
          refine pi_t 8 rfl (by kernel_rfl) (by kernel_rfl) (fun _ _ _ _ h => h) (fun K hK => ?_)
          go_big_quiet_op
          refine hK _ ?_
          clear hK K
          refine pi_t 9 rfl (by kernel_rfl) (by kernel_rfl) (fun _ _ _ _ h => h) (fun K hK => ?_)
          go_big_quiet_op
          refine hK _ ?_
          clear hK K
          refine pi_b 10 14 rfl rfl (by kernel_rfl) (fun K hK => ?_) (fun K hK => ?_)
          · rw [Nat.add_sub_cancel_left]
            go_wp2_with (go_at_call 122; refine (HDOT.out _ _ _ (hEq.trans' (by (repeat' (first | exact Ext.refl _ | assumption | apply Ext.allocR | apply Ext.drewR | apply Ext.drewNR | (refine Ext.trans' ?_ (by assumption))))))).mono ?_; rintro e wa ⟨rfl, hxa⟩)
            refine hK _ _ (fun _ h => af_step h hxa) ?_
            clear hK K
            have hEa : Ext wq wa := Ext.trans' (Below.drew (Ext.refl wq)) hxa
            refine pi_t 11 rfl (by kernel_rfl) (by kernel_rfl) (fun _ _ _ _ h => h) (fun K hK => ?_)
            go_big_quiet_op
            refine hK _ ?_
            clear hK K
            refine pi_t 12 rfl (by kernel_rfl) (by kernel_rfl) (fun _ _ _ _ h => h) (fun K hK => ?_)
            go_big_quiet_op
            refine hK _ ?_
            clear hK K
            refine pi_t 13 rfl (by kernel_rfl) (by kernel_rfl) (fun _ _ _ _ h => h) (fun K hK => ?_)
            go_big_quiet_op
            refine hK _ ?_
            clear hK K
            refine pi_l 14 rfl (by kernel_rfl) (fun K hK => ?_)
            go_wp2
            refine hK _ _ (fun _ h => af_step h (Ext.alloc' _ _)) ?_
            clear hK K
            refine pi_l 15 rfl (by kernel_rfl) (fun K hK => ?_)
            go_wp2
            have hsz := hEa.size
            refine hK _ _ (fun _ h => ⟨⟨_, hEa.allocR _⟩, rfl⟩) ?_
            clear hK K
            refine pi_t 16 rfl (by kernel_rfl) (by kernel_rfl) (fun _ _ _ _ h => h) (fun K hK => ?_)
            go_big_quiet_op
            refine hK _ ?_
            clear hK K
            refine pi_end (by kernel_rfl) ?_
            go_wp2_with fail
            go_meet
            exact ⟨_, rfl, rfl, heap_at _ _ rfl, hEa.allocR _, hsz⟩
          · go_wp2
            refine hK _ _ (fun _ h => af_step h (Ext.alloc' _ _)) ?_
            clear hK K
            refine pi_l 10 rfl (by kernel_rfl) (fun K hK => ?_)
            rw [Nat.add_sub_cancel_left]
            go_wp2_with (go_at_call 122; refine (HDOT.out _ _ _ (hEq.trans' (by (repeat' (first | exact Ext.refl _ | assumption | apply Ext.allocR | apply Ext.drewR | apply Ext.drewNR | (refine Ext.trans' ?_ (by assumption))))))).mono ?_; rintro e wa ⟨rfl, hxa⟩)
            refine hK _ _ (fun _ h => af_step h hxa) ?_
            clear hK K
            have hEa : Ext wq wa := Ext.trans' (Ext.alloc' wq _) (Ext.trans' (Below.drew (Ext.refl _)) hxa)
            have hbx : wa.heap[wq.heap.size]? = some (.cells #[.int .i64 0, .int .u64 0] 75 (0, 0)) := hxa.keep (heap_at wq.drew _ rfl)
            have p0 := (cell_of hbx 0).trans rfl
            have p1 := (cell_of hbx 1).trans rfl
            have f0 := frozen_of hbx 0
            have f1 := frozen_of hbx 1
            have HBX := Lib.hid hbx
            clear hbx
            refine pi_t 11 rfl (by kernel_rfl) (by kernel_rfl) (fun _ _ _ _ h => h) (fun K hK => ?_)
            go_big_quiet_op
            refine hK _ ?_
            clear hK K
            refine pi_t 12 rfl (by kernel_rfl) (by kernel_rfl) (fun _ _ _ _ h => h) (fun K hK => ?_)
            go_big_quiet_op
            refine hK _ ?_
            clear hK K
            refine pi_t 13 rfl (by kernel_rfl) (by kernel_rfl) (fun _ _ _ _ h => h) (fun K hK => ?_)
            go_big_quiet_op
            refine hK _ ?_
            clear hK K
            refine pi_l 15 rfl (by kernel_rfl) (fun K hK => ?_)
            go_wp2
            refine hK _ _ (fun _ h => ⟨⟨_, (hEa.setR (p := ⟨wq.heap.size, 0, none⟩) (Nat.le_refl _) _).setR (p := ⟨wq.heap.size, 1, none⟩) (Nat.le_refl _) _⟩, rfl⟩) ?_
            clear hK K
            refine pi_t 16 rfl (by kernel_rfl) (by kernel_rfl) (fun _ _ _ _ h => h) (fun K hK => ?_)
            go_big_quiet_op
            refine hK _ ?_
            clear hK K
            refine pi_end (by kernel_rfl) ?_
            go_wp2_with fail
            go_meet
            exact ⟨_, rfl, rfl, set2 HBX.out _ _, (hEa.setR (p := ⟨wq.heap.size, 0, none⟩) (Nat.le_refl _) _).setR (p := ⟨wq.heap.size, 1, none⟩) (Nat.le_refl _) _, Nat.le_refl _⟩
        case rest =>
          obtain ⟨z, rfl, rfl, hz, hEc, hzz⟩ := hcut
          have hEx := hEq.trans' hEc
          have y0 := (cell_of hz 0).trans rfl
          have y1 := (cell_of hz 1).trans rfl
          have zl := lt_of hz
          have hg9 := (hq.trans' hEc).keep HG9.out
          have hls := lt_of HG9.out
          have hqs := hq.size
          cases ok
          · have hnn : innF l m W (r + 1) = none := by
              have h1 := HOK0.out rfl
              simp only [innF, HIN.out, HDT.out, h1, Option.bind_some, Option.bind_none]
            have hnil := innF_none hnn (n := R) (by omega)
            obtain ⟨p0, p1, f0, f1, hl⟩ := zbox HZ4.out hEx
            have HNIL := Lib.hid hnil
            clear hg9 hnn hnil
            go_wp2_with fail
            refine bodyPost_ret (v := .tuple #[.agg #[.int .i64 0, .int .u64 0], .int .i64 4]) (by simp [results, Tryz.results119, go_sem, *]) rfl ⟨by rw [HNIL.out]; rfl, ?_⟩
            exact ((hEw4.trans' hEx).setR (p := ⟨w.heap.size, 0, none⟩) (Nat.le_refl _) _).setR (p := ⟨w.heap.size, 1, none⟩) (Nat.le_refl _) _
          · obtain ⟨n, rfl, rfl, rfl⟩ := HOK1.out rfl
            have a0 := (cell_of hg9 0).trans rfl
            have a1 := (cell_of hg9 1).trans rfl
            have f0 := frozen_of hg9 0
            have f1 := frozen_of hg9 1
            have HG9' := Lib.hid hg9
            have hss : innF l m W (r + 1) = some (bif decide (r = 0) || decide (n < best) then n else best) := by
              simp only [innF, HIN.out, HDT.out, Option.bind_some]
            by_cases hr0 : r = 0
            · have hr0' : ((r : Int) == 0) = true := by simp [hr0]
              have hdd : (decide (r = 0) || decide (n < best)) = true := by simp [hr0]
              rw [hdd] at hss
              have HSS := Lib.hid hss
              clear hg9 hss hdd hr0
              go_wp2_with fail
              go_roundw
              case rel =>
                exact ⟨r + 1, n, by omega, by go_num, HSS.out, (hEx.setR (p := ⟨w4.heap.size, 0, none⟩) (Nat.le_refl _) _).setR (p := ⟨w4.heap.size, 1, none⟩) (Nat.le_refl _) _, set2 HG9'.out _ _⟩
              case measure => simp [intOf]; omega
            · have hr0' : ((r : Int) == 0) = false := by simpa using hr0
              by_cases hlt : n < best
              · have hdd : (decide (r = 0) || decide (n < best)) = true := by simp [hlt]
                rw [hdd] at hss
                have HSS := Lib.hid hss
                clear hg9 hss hdd hr0
                go_wp2_with fail
                refine Calls.mono (Less_c n best _) ?_
                rintro e wl ⟨rfl, hxl⟩
                rw [decide_eq_true hlt]
                have hz' := hxl.keep hz
                have y0' := (cell_of hz' 0).trans rfl
                have y1' := (cell_of hz' 1).trans rfl
                have zl' := lt_of hz'
                have hg9' := hxl.keep HG9'.out
                have a0' := (cell_of hg9' 0).trans rfl
                have a1' := (cell_of hg9' 1).trans rfl
                have f0' := frozen_of hg9' 0
                have f1' := frozen_of hg9' 1
                have HG9'' := Lib.hid hg9'
                clear hg9' hz'
                go_wp2_with fail
                go_roundw
                case rel =>
                  exact ⟨r + 1, n, by omega, by go_num, HSS.out, ((hEx.trans' hxl).setR (p := ⟨w4.heap.size, 0, none⟩) (Nat.le_refl _) _).setR (p := ⟨w4.heap.size, 1, none⟩) (Nat.le_refl _) _, set2 HG9''.out _ _⟩
                case measure => simp [intOf]; omega
              · have hdd : (decide (r = 0) || decide (n < best)) = false := by simp [hlt, hr0]
                rw [hdd] at hss
                have HSS := Lib.hid hss
                clear hg9 hss hdd hr0
                go_wp2_with fail
                refine Calls.mono (Less_c n best _) ?_
                rintro e wl ⟨rfl, hxl⟩
                rw [decide_eq_false (show ¬ n < best by omega)]
                have hg9' := hxl.keep HG9'.out
                have HG9'' := Lib.hid hg9'
                clear hg9'
                go_wp2_with fail
                go_roundw
                case rel => exact ⟨r + 1, best, by omega, by go_num, HSS.out, hEx.trans' hxl, HG9''.out⟩
                case measure => simp [intOf]; omega
      · obtain rfl : r = R := by omega
        have HIN := Lib.hid hin
        have a0 := (cell_of hg9 0).trans rfl
        have a1 := (cell_of hg9 1).trans rfl
        have al := lt_of hg9
        obtain ⟨p0, p1, f0, f1, hl⟩ := zbox HZ4.out hE
        clear hin hg9
        go_wp2_with fail
        refine bodyPost_ret (v := .tuple #[.agg #[.int .i64 (hi best), .int .u64 (lo best)], .int .i64 0]) (by simp [results, Tryz.results119, go_sem, *]) rfl ⟨by rw [HIN.out]; rfl, ?_⟩
        exact ((hEw4.trans' hE).setR (p := ⟨w.heap.size, 0, none⟩) (Nat.le_refl _) _).setR (p := ⟨w.heap.size, 1, none⟩) (Nat.le_refl _) _
end Go.Proofs.YtfhdjekpdifajaaGreat
namespace Go.Proofs.YtfhdjekpdifajaaGreat
set_option linter.unusedVariables false
open Go.RowKit
theorem below_sub {n best : Int} (hn : W128 n) (hb : W128 best) : decide (32768 ≤ dg (n + -best) 9) = decide (n < best) := by
  unfold W128 at hn hb
  have e : dg (n + -best) 9 = (n + -best) / 22300745198530623141535718272648361505980416 % 65536 := dg9 _
  rw [e]
  by_cases h : n < best
  · rw [decide_eq_true h, decide_eq_true (by omega)]
  · rw [decide_eq_false h, decide_eq_false (by omega)]
theorem LLess_c {n best : Int} (hn : W128 n) (hb : W128 best) (w : World) :
    Calls Tryz.prog 175 #[longV (n + -best)] w fun e w' => e = .returned (.bool (decide (n < best))) ∧ Ext w w' := by
  have hd := dg_bd (n + -best) 9
  have := Below_c (dg (n + -best)) hd.1 hd.2 w
  rw [below_sub hn hb] at this
  exact this
set_option maxRecDepth 20000 in
set_option maxHeartbeats 8000000 in
theorem RInner_mode (s s2 : Nat) (G G2 : Gr) (C : Cfg) (lv : Int) (R W : Nat) (l m : List Int) (w : World) (h : RSAt w s G C lv R W l) (h2 : RSAt w s2 G2 C lv R W m) (hm : C.mode ≠ 1) :
    Calls Tryz.prog 124 #[.pointer (some ⟨s, 0, none⟩), .pointer (some ⟨s2, 0, none⟩)] w fun e w' => e = .returned (.tuple #[.agg #[.int .i64 0, .int .u64 0], .int .i64 3]) ∧ Ext w w' := by
  have hm' : (C.mode != 1) = true := by simpa using hm
  obtain ⟨w0, hw0⟩ : ∃ w0, w.alloc (.cells #[.int .i64 0, .int .u64 0] 75) = w0 := ⟨_, rfl⟩
  have hz0 : w0.heap[w.heap.size]? = some (.cells #[.int .i64 0, .int .u64 0] 75 (0, 0)) := by rw [← hw0]; exact heap_at _ _ rfl
  have hE0 : Ext w w0 := by rw [← hw0]; exact Ext.alloc' _ _
  have hex := (h.ext hE0).ex
  have hex2 := (h2.ext hE0).ex
  have ls := lt_of hex
  have c0 := (cell_of hex 0).trans rfl
  have c1 := (cell_of hex 1).trans rfl
  have c2 := (cell_of hex 2).trans rfl
  have c3 := (cell_of hex 3).trans rfl
  have c4 := (cell_of hex 4).trans rfl
  have c5 := (cell_of hex 5).trans rfl
  have ls2 := lt_of hex2
  have d0 := (cell_of hex2 0).trans rfl
  have d1 := (cell_of hex2 1).trans rfl
  have d2 := (cell_of hex2 2).trans rfl
  have d3 := (cell_of hex2 3).trans rfl
  have d4 := (cell_of hex2 4).trans rfl
  have d5 := (cell_of hex2 5).trans rfl
  have p0 := (cell_of hz0 0).trans rfl
  have p1 := (cell_of hz0 1).trans rfl
  have f0 := frozen_of hz0 0
  have f1 := frozen_of hz0 1
  have pl := lt_of hz0
  clear hex hex2 h h2 hm hz0
  go_enter Tryz.func124, Tryz.ntmps124
  go_upto_region 1 with (fail)
  try rw [hw0]
  go_wp2_with fail
  have hC0 := af_drew w0
  refine pi_start (fun w' => ∃ z : After w0, w' = z.w) [] (by kernel_rfl) ?_
  refine pi_t 0 rfl (by kernel_rfl) (by kernel_rfl) (fun _ _ _ _ h => h) (fun K hK => ?_)
  go_big_quiet_op
  refine hK _ ?_
  clear hK K
  refine pi_t 1 rfl (by kernel_rfl) (by kernel_rfl) (fun _ _ _ _ h => h) (fun K hK => ?_)
  go_big_quiet_op
  refine hK _ ?_
  clear hK K
  refine pi_t 2 rfl (by kernel_rfl) (by kernel_rfl) (fun _ _ _ _ h => h) (fun K hK => ?_)
  go_big_quiet_op
  refine hK _ ?_
  clear hK K
  refine pi_t 4 rfl (by kernel_rfl) (by kernel_rfl) (fun _ _ _ _ h => h) (fun K hK => ?_)
  go_big_quiet_op
  refine hK _ ?_
  clear hK K
  refine pi_t 5 rfl (by kernel_rfl) (by kernel_rfl) (fun _ _ _ _ h => h) (fun K hK => ?_)
  go_big_quiet_op
  refine hK _ ?_
  clear hK K
  refine pi_t 6 rfl (by kernel_rfl) (by kernel_rfl) (fun _ _ _ _ h => h) (fun K hK => ?_)
  go_big_quiet_op
  refine hK _ ?_
  clear hK K
  refine pi_c 3 (by assumption) rfl (by kernel_rfl) (by kernel_rfl) (fun _ _ _ _ h => h) (fun K hK => ?_)
  go_big_quiet_op
  refine hK _ ?_
  clear hK K
  refine pi_c 7 (by assumption) rfl (by kernel_rfl) (by kernel_rfl) (fun _ _ _ _ h => h) (fun K hK => ?_)
  go_big_quiet_op
  refine hK _ ?_
  clear hK K
  refine pi_t 8 rfl (by kernel_rfl) (by kernel_rfl) (fun _ _ _ _ h => h) (fun K hK => ?_)
  go_big_quiet_op
  refine hK _ ?_
  clear hK K
  refine pi_t 9 rfl (by kernel_rfl) (by kernel_rfl) (fun _ _ _ _ h => h) (fun K hK => ?_)
  go_big_quiet_op
  refine hK _ ?_
  clear hK K
  refine pi_t 10 rfl (by kernel_rfl) (by kernel_rfl) (fun _ _ _ _ h => h) (fun K hK => ?_)
  go_big_quiet_op
  refine hK _ ?_
  clear hK K
  refine pi_t 11 rfl (by kernel_rfl) (by kernel_rfl) (fun _ _ _ _ h => h) (fun K hK => ?_)
  go_big_quiet_op
  refine hK _ ?_
  clear hK K
  refine pi_t 12 rfl (by kernel_rfl) (by kernel_rfl) (fun _ _ _ _ h => h) (fun K hK => ?_)
  go_big_quiet_op
  refine hK _ ?_
  clear hK K
  refine pi_t 14 rfl (by kernel_rfl) (by kernel_rfl) (fun _ _ _ _ h => h) (fun K hK => ?_)
  go_big_quiet_op
  refine hK _ ?_
  clear hK K
  refine pi_t 15 rfl (by kernel_rfl) (by kernel_rfl) (fun _ _ _ _ h => h) (fun K hK => ?_)
  go_big_quiet_op
  refine hK _ ?_
  clear hK K
  refine pi_t 16 rfl (by kernel_rfl) (by kernel_rfl) (fun _ _ _ _ h => h) (fun K hK => ?_)
  go_big_quiet_op
  refine hK _ ?_
  clear hK K
  refine pi_c 13 (by assumption) rfl (by kernel_rfl) (by kernel_rfl) (fun _ _ _ _ h => h) (fun K hK => ?_)
  go_big_quiet_op
  refine hK _ ?_
  clear hK K
  refine pi_c 17 (by assumption) rfl (by kernel_rfl) (by kernel_rfl) (fun _ _ _ _ h => h) (fun K hK => ?_)
  go_big_quiet_op
  refine hK _ ?_
  clear hK K
  refine pi_t 18 rfl (by kernel_rfl) (by kernel_rfl) (fun _ _ _ _ h => h) (fun K hK => ?_)
  go_big_quiet_op
  refine hK _ ?_
  clear hK K
  refine pi_t 19 rfl (by kernel_rfl) (by kernel_rfl) (fun _ _ _ _ h => h) (fun K hK => ?_)
  go_big_quiet_op
  refine hK _ ?_
  clear hK K
  refine pi_end (by kernel_rfl) ?_
  go_wp2
  refine bodyPost_ret (v := .tuple #[.agg #[.int .i64 0, .int .u64 0], .int .i64 3]) (by simp [results, Tryz.results124, go_sem, *]) rfl ⟨rfl, ?_⟩
  exact (hE0.drewR.setR (p := ⟨w.heap.size, 0, none⟩) (Nat.le_refl _) _).setR (p := ⟨w.heap.size, 1, none⟩) (Nat.le_refl _) _
set_option maxRecDepth 20000 in
set_option maxHeartbeats 8000000 in
theorem RInner_c (s s2 : Nat) (G G2 : Gr) (C : Cfg) (lv : Int) (R W : Nat) (l m : List Int) (w : World) (h : RSAt w s G C lv R W l) (h2 : RSAt w s2 G2 C lv R W m) (hm : C.mode = 1) :
    Calls Tryz.prog 124 #[.pointer (some ⟨s, 0, none⟩), .pointer (some ⟨s2, 0, none⟩)] w fun e w' => e = .returned (innV (innF l m W R)) ∧ Ext w w' := by
  have hm' : (C.mode != 1) = false := by simp [hm]
  obtain ⟨w0, hw0⟩ : ∃ w0, w.alloc (.cells #[.int .i64 0, .int .u64 0] 75) = w0 := ⟨_, rfl⟩
  have hz0 : w0.heap[w.heap.size]? = some (.cells #[.int .i64 0, .int .u64 0] 75 (0, 0)) := by rw [← hw0]; exact heap_at _ _ rfl
  have hE0 : Ext w w0 := by rw [← hw0]; exact Ext.alloc' _ _
  have H := Lib.hid (h.ext hE0)
  have H2 := Lib.hid (h2.ext hE0)
  have HZ0 := Lib.hid hz0
  have hex := H.out.ex
  have hex2 := H2.out.ex
  have ls := lt_of hex
  have c0 := (cell_of hex 0).trans rfl
  have c1 := (cell_of hex 1).trans rfl
  have c2 := (cell_of hex 2).trans rfl
  have c3 := (cell_of hex 3).trans rfl
  have c4 := (cell_of hex 4).trans rfl
  have c5 := (cell_of hex 5).trans rfl
  have ls2 := lt_of hex2
  have d0 := (cell_of hex2 0).trans rfl
  have d1 := (cell_of hex2 1).trans rfl
  have d2 := (cell_of hex2 2).trans rfl
  have d3 := (cell_of hex2 3).trans rfl
  have d4 := (cell_of hex2 4).trans rfl
  have d5 := (cell_of hex2 5).trans rfl
  have hW8 := h.g.w2
  have hR8 := h.g.r2
  clear hex hex2 h h2 hm hz0
  go_enter Tryz.func124, Tryz.ntmps124
  go_upto_region 1 with (fail)
  try rw [hw0]
  clear hw0
  go_wp2_with fail
  have hC0 := af_drew w0
  refine pi_start (fun w' => ∃ z : After w0, w' = z.w) [] (by kernel_rfl) ?_
  refine pi_t 0 rfl (by kernel_rfl) (by kernel_rfl) (fun _ _ _ _ h => h) (fun K hK => ?_)
  go_big_quiet_op
  refine hK _ ?_
  clear hK K
  refine pi_t 1 rfl (by kernel_rfl) (by kernel_rfl) (fun _ _ _ _ h => h) (fun K hK => ?_)
  go_big_quiet_op
  refine hK _ ?_
  clear hK K
  refine pi_t 2 rfl (by kernel_rfl) (by kernel_rfl) (fun _ _ _ _ h => h) (fun K hK => ?_)
  go_big_quiet_op
  refine hK _ ?_
  clear hK K
  refine pi_t 4 rfl (by kernel_rfl) (by kernel_rfl) (fun _ _ _ _ h => h) (fun K hK => ?_)
  go_big_quiet_op
  refine hK _ ?_
  clear hK K
  refine pi_t 5 rfl (by kernel_rfl) (by kernel_rfl) (fun _ _ _ _ h => h) (fun K hK => ?_)
  go_big_quiet_op
  refine hK _ ?_
  clear hK K
  refine pi_t 6 rfl (by kernel_rfl) (by kernel_rfl) (fun _ _ _ _ h => h) (fun K hK => ?_)
  go_big_quiet_op
  refine hK _ ?_
  clear hK K
  refine pi_c 3 (by assumption) rfl (by kernel_rfl) (by kernel_rfl) (fun _ _ _ _ h => h) (fun K hK => ?_)
  go_big_quiet_op
  refine hK _ ?_
  clear hK K
  refine pi_c 7 (by assumption) rfl (by kernel_rfl) (by kernel_rfl) (fun _ _ _ _ h => h) (fun K hK => ?_)
  go_big_quiet_op
  refine hK _ ?_
  clear hK K
  refine pi_t 8 rfl (by kernel_rfl) (by kernel_rfl) (fun _ _ _ _ h => h) (fun K hK => ?_)
  go_big_quiet_op
  refine hK _ ?_
  clear hK K
  refine pi_t 9 rfl (by kernel_rfl) (by kernel_rfl) (fun _ _ _ _ h => h) (fun K hK => ?_)
  go_big_quiet_op
  refine hK _ ?_
  clear hK K
  refine pi_t 10 rfl (by kernel_rfl) (by kernel_rfl) (fun _ _ _ _ h => h) (fun K hK => ?_)
  go_big_quiet_op
  refine hK _ ?_
  clear hK K
  refine pi_t 11 rfl (by kernel_rfl) (by kernel_rfl) (fun _ _ _ _ h => h) (fun K hK => ?_)
  go_big_quiet_op
  refine hK _ ?_
  clear hK K
  refine pi_t 12 rfl (by kernel_rfl) (by kernel_rfl) (fun _ _ _ _ h => h) (fun K hK => ?_)
  go_big_quiet_op
  refine hK _ ?_
  clear hK K
  refine pi_t 14 rfl (by kernel_rfl) (by kernel_rfl) (fun _ _ _ _ h => h) (fun K hK => ?_)
  go_big_quiet_op
  refine hK _ ?_
  clear hK K
  refine pi_t 15 rfl (by kernel_rfl) (by kernel_rfl) (fun _ _ _ _ h => h) (fun K hK => ?_)
  go_big_quiet_op
  refine hK _ ?_
  clear hK K
  refine pi_t 16 rfl (by kernel_rfl) (by kernel_rfl) (fun _ _ _ _ h => h) (fun K hK => ?_)
  go_big_quiet_op
  refine hK _ ?_
  clear hK K
  refine pi_c 13 (by assumption) rfl (by kernel_rfl) (by kernel_rfl) (fun _ _ _ _ h => h) (fun K hK => ?_)
  go_big_quiet_op
  refine hK _ ?_
  clear hK K
  refine pi_c 17 (by assumption) rfl (by kernel_rfl) (by kernel_rfl) (fun _ _ _ _ h => h) (fun K hK => ?_)
  go_big_quiet_op
  refine hK _ ?_
  clear hK K
  refine pi_t 18 rfl (by kernel_rfl) (by kernel_rfl) (fun _ _ _ _ h => h) (fun K hK => ?_)
  go_big_quiet_op
  refine hK _ ?_
  clear hK K
  refine pi_t 19 rfl (by kernel_rfl) (by kernel_rfl) (fun _ _ _ _ h => h) (fun K hK => ?_)
  go_big_quiet_op
  refine hK _ ?_
  clear hK K
  refine pi_end (by kernel_rfl) ?_
  go_wp2_with fail
  clear c0 c1 c2 c3 c4 c5 d0 d1 d2 d3 d4 d5 ls ls2
  go_loopw [7] (fun u wr => ∃ (r : Nat) (best : Int), r ≤ R ∧ u = .int .i64 r ∧ innF l m W r = some best ∧ Ext w0 wr ∧ wr.heap[w0.heap.size]? = some (.cells #[.int .i64 (hi best), .int .u64 (lo best)] 75 (0, 0))) (fun u _ => R - (intOf u).toNat)
  case atStart => exact ⟨0, 0, Nat.zero_le _, rfl, rfl, (Ext.refl w0).drewR.allocR _, heap_at _ _ rfl⟩
  case round =>
    obtain ⟨r, best, hr, rfl, hin, hE, hg9⟩ := hrel
    have hs := H.out.ext hE
    have hs2 := H2.out.ext hE
    have ls := hs.lts
    have c6 := (cell_of hs.ex 6).trans rfl
    obtain ⟨capg, cg, hcapg⟩ := hs.g.cg
    have lg := hs.g.ltg
    have lm := hs.g.ltm
    have ls2 := hs2.lts
    have d6 := (cell_of hs2.ex 6).trans rfl
    obtain ⟨capg2, cg2, hcapg2⟩ := hs2.g.cg
    have lg2 := hs2.g.ltg
    have lm2 := hs2.g.ltm
    by_cases hgo : r < R
    · have cm := hs.g.cm hgo
      have cm2 := hs2.g.cm hgo
      obtain ⟨dt, hdt⟩ : ∃ dt, dotF (rowP l W r) (rowP m W r) W = dt := ⟨_, rfl⟩
      obtain ⟨rh, rl, ok, hdv, hok1, hok0⟩ : ∃ (rh rl : Int) (ok : Bool), dotV dt = .tuple #[.agg #[.int .i64 rh, .int .u64 rl], .bool ok] ∧ (ok = true → ∃ n, dt = some n ∧ rh = hi n ∧ rl = lo n) ∧ (ok = false → dt = none) := by
        cases dt with
        | none => exact ⟨0, 0, false, rfl, (fun h => by cases h), (fun _ => rfl)⟩
        | some n => exact ⟨hi n, lo n, true, rfl, (fun _ => ⟨n, rfl, rfl, rfl⟩), (fun h => by cases h)⟩
      have hdot : ∀ w' : World, Ext wr w' → Calls Tryz.prog 125 #[.slice (some ⟨G.r r, 0, none⟩) W (G.c r), .slice (some ⟨G2.r r, 0, none⟩) W (G2.c r)] w' fun e w'' => e = .returned (.tuple #[.agg #[.int .i64 rh, .int .u64 rl], .bool ok]) ∧ Ext w' w'' := by
        intro w' hE'
        have := RefDot_c (rowP l W r) (rowP m W r) _ _ w' (rowP_all hs.fit W r) (rowP_all hs2.fit W r) (by rw [rowP_len, rowP_len]) (by rw [rowP_len]; omega) ((hs.ext hE').g.ints hgo) ((hs2.ext hE').g.ints hgo)
        rw [rowP_len, hdt, hdv] at this
        exact this
      have HDOT := Lib.hid hdot
      have HDT := Lib.hid hdt
      have HOK1 := Lib.hid hok1
      have HOK0 := Lib.hid hok0
      have HIN := Lib.hid hin
      have HG9 := Lib.hid hg9
      clear hdot hdv hok1 hok0 hdt hs hs2 hin hg9
      go_upto_region 9 with (fail)
      go_cut [8, 9] (fun sA sB wx => ∃ z : Nat, sA = .pointer (some ⟨z, 0, none⟩) ∧ sB = .bool ok ∧ wx.heap[z]? = some (.cells #[.int .i64 rh, .int .u64 rl] 75 (0, 0)) ∧ Ext wr wx ∧ wr.heap.size ≤ z)
      case first =>
        have hC0 := af_drew wr
        refine pi_start (fun w' => ∃ x : After wr, w' = x.w) [] (by kernel_rfl) ?_
        refine pi_t 0 rfl (by kernel_rfl) (by kernel_rfl) (fun _ _ _ _ h => h) (fun K hK => ?_)
        go_big_quiet_op
        refine hK _ ?_
        clear hK K
        refine pi_t 1 rfl (by kernel_rfl) (by kernel_rfl) (fun _ _ _ _ h => h) (fun K hK => ?_)
        go_big_quiet_op
        refine hK _ ?_
        clear hK K
        refine pi_t 2 rfl (by kernel_rfl) (by kernel_rfl) (fun _ _ _ _ h => h) (fun K hK => ?_)
        go_big_quiet_op
        refine hK _ ?_
        clear hK K
        refine pi_t 7 rfl (by kernel_rfl) (by kernel_rfl) (fun _ _ _ _ h => h) (fun K hK => ?_)
        go_big_quiet_op
        refine hK _ ?_
        clear hK K
        refine pi_t 10 rfl (by kernel_rfl) (by kernel_rfl) (fun _ _ _ _ h => h) (fun K hK => ?_)
        go_big_quiet_op
        refine hK _ ?_
        clear hK K
        refine pi_t 11 rfl (by kernel_rfl) (by kernel_rfl) (fun _ _ _ _ h => h) (fun K hK => ?_)
        go_big_quiet_op
        refine hK _ ?_
        clear hK K
        refine pi_t 12 rfl (by kernel_rfl) (by kernel_rfl) (fun _ _ _ _ h => h) (fun K hK => ?_)
        go_big_quiet_op
        refine hK _ ?_
        clear hK K
        refine pi_t 17 rfl (by kernel_rfl) (by kernel_rfl) (fun _ _ _ _ h => h) (fun K hK => ?_)
        go_big_quiet_op
        refine hK _ ?_
        clear hK K
        refine pi_c 3 (by assumption) rfl (by kernel_rfl) (by kernel_rfl) (fun _ _ _ _ h => h) (fun K hK => ?_)
        go_big_quiet_op
        refine hK _ ?_
        clear hK K
        refine pi_t 4 rfl (by kernel_rfl) (by kernel_rfl) (fun _ _ _ _ h => h) (fun K hK => ?_)
        go_big_quiet_op
        refine hK _ ?_
        clear hK K
        refine pi_t 5 rfl (by kernel_rfl) (by kernel_rfl) (fun _ _ _ _ h => h) (fun K hK => ?_)
        go_big_quiet_op
        refine hK _ ?_
        clear hK K
        refine pi_c 6 (by assumption) rfl (by kernel_rfl) (by kernel_rfl) (fun _ _ _ _ h => h) (fun K hK => ?_)
        go_big_quiet_op
        refine hK _ ?_
        clear hK K
        refine pi_t 8 rfl (by kernel_rfl) (by kernel_rfl) (fun _ _ _ _ h => h) (fun K hK => ?_)
        go_big_quiet_op
        refine hK _ ?_
        clear hK K
        refine pi_c 9 (by assumption) rfl (by kernel_rfl) (by kernel_rfl) (fun _ _ _ _ h => h) (fun K hK => ?_)
        go_big_quiet_op
        refine hK _ ?_
        clear hK K
        refine pi_c 13 (by assumption) rfl (by kernel_rfl) (by kernel_rfl) (fun _ _ _ _ h => h) (fun K hK => ?_)
        go_big_quiet_op
        refine hK _ ?_
        clear hK K
        refine pi_t 14 rfl (by kernel_rfl) (by kernel_rfl) (fun _ _ _ _ h => h) (fun K hK => ?_)
        go_big_quiet_op
        refine hK _ ?_
        clear hK K
        refine pi_t 15 rfl (by kernel_rfl) (by kernel_rfl) (fun _ _ _ _ h => h) (fun K hK => ?_)
        go_big_quiet_op
        refine hK _ ?_
        clear hK K
        refine pi_c 16 (by assumption) rfl (by kernel_rfl) (by kernel_rfl) (fun _ _ _ _ h => h) (fun K hK => ?_)
        go_big_quiet_op
        refine hK _ ?_
        clear hK K
        refine pi_t 18 rfl (by kernel_rfl) (by kernel_rfl) (fun _ _ _ _ h => h) (fun K hK => ?_)
        go_big_quiet_op
        refine hK _ ?_
        clear hK K
        refine pi_c 19 (by assumption) rfl (by kernel_rfl) (by kernel_rfl) (fun _ _ _ _ h => h) (fun K hK => ?_)
        go_big_quiet_op
        refine hK _ ?_
        clear hK K
        refine pi_b 20 24 rfl rfl (by kernel_rfl) (fun K hK => ?_) (fun K hK => ?_)
        · skip
          go_wp2_with (go_at_call 125; refine (HDOT.out _ (by (repeat' (first | exact Ext.refl _ | assumption | apply Ext.allocR | apply Ext.drewR | apply Ext.drewNR | (refine Ext.trans' ?_ (by assumption)))))).mono ?_; rintro e wa ⟨rfl, hxa⟩)
          refine hK _ _ (fun _ h => af_step h hxa) ?_
          clear hK K
          have hEa : Ext wr wa := Ext.trans' (Below.drew (Ext.refl wr)) hxa
          refine pi_t 21 rfl (by kernel_rfl) (by kernel_rfl) (fun _ _ _ _ h => h) (fun K hK => ?_)
          go_big_quiet_op
          refine hK _ ?_
          clear hK K
          refine pi_t 22 rfl (by kernel_rfl) (by kernel_rfl) (fun _ _ _ _ h => h) (fun K hK => ?_)
          go_big_quiet_op
          refine hK _ ?_
          clear hK K
          refine pi_t 23 rfl (by kernel_rfl) (by kernel_rfl) (fun _ _ _ _ h => h) (fun K hK => ?_)
          go_big_quiet_op
          refine hK _ ?_
          clear hK K
          refine pi_l 24 rfl (by kernel_rfl) (fun K hK => ?_)
          go_wp2
          refine hK _ _ (fun _ h => af_step h (Ext.alloc' _ _)) ?_
          clear hK K
          refine pi_l 25 rfl (by kernel_rfl) (fun K hK => ?_)
          go_wp2
          have hsz := hEa.size
          refine hK _ _ (fun _ h => ⟨⟨_, hEa.allocR _⟩, rfl⟩) ?_
          clear hK K
          refine pi_t 26 rfl (by kernel_rfl) (by kernel_rfl) (fun _ _ _ _ h => h) (fun K hK => ?_)
          go_big_quiet_op
          refine hK _ ?_
          clear hK K
          refine pi_end (by kernel_rfl) ?_
          go_wp2_with fail
          go_meet
          exact ⟨_, rfl, rfl, heap_at _ _ rfl, hEa.allocR _, hsz⟩
        · go_wp2
          refine hK _ _ (fun _ h => af_step h (Ext.alloc' _ _)) ?_
          clear hK K
          refine pi_l 20 rfl (by kernel_rfl) (fun K hK => ?_)
          skip
          go_wp2_with (go_at_call 125; refine (HDOT.out _ (by (repeat' (first | exact Ext.refl _ | assumption | apply Ext.allocR | apply Ext.drewR | apply Ext.drewNR | (refine Ext.trans' ?_ (by assumption)))))).mono ?_; rintro e wa ⟨rfl, hxa⟩)
          refine hK _ _ (fun _ h => af_step h hxa) ?_
          clear hK K
          have hEa : Ext wr wa := Ext.trans' (Ext.alloc' wr _) (Ext.trans' (Below.drew (Ext.refl _)) hxa)
          have hbx : wa.heap[wr.heap.size]? = some (.cells #[.int .i64 0, .int .u64 0] 75 (0, 0)) := hxa.keep (heap_at (World.drew wr) _ rfl)
          have p0 := (cell_of hbx 0).trans rfl
          have p1 := (cell_of hbx 1).trans rfl
          have f0 := frozen_of hbx 0
          have f1 := frozen_of hbx 1
          have HBX := Lib.hid hbx
          clear hbx
          refine pi_t 21 rfl (by kernel_rfl) (by kernel_rfl) (fun _ _ _ _ h => h) (fun K hK => ?_)
          go_big_quiet_op
          refine hK _ ?_
          clear hK K
          refine pi_t 22 rfl (by kernel_rfl) (by kernel_rfl) (fun _ _ _ _ h => h) (fun K hK => ?_)
          go_big_quiet_op
          refine hK _ ?_
          clear hK K
          refine pi_t 23 rfl (by kernel_rfl) (by kernel_rfl) (fun _ _ _ _ h => h) (fun K hK => ?_)
          go_big_quiet_op
          refine hK _ ?_
          clear hK K
          refine pi_l 25 rfl (by kernel_rfl) (fun K hK => ?_)
          go_wp2
          refine hK _ _ (fun _ h => ⟨⟨_, (hEa.setR (p := ⟨wr.heap.size, 0, none⟩) (Nat.le_refl _) _).setR (p := ⟨wr.heap.size, 1, none⟩) (Nat.le_refl _) _⟩, rfl⟩) ?_
          clear hK K
          refine pi_t 26 rfl (by kernel_rfl) (by kernel_rfl) (fun _ _ _ _ h => h) (fun K hK => ?_)
          go_big_quiet_op
          refine hK _ ?_
          clear hK K
          refine pi_end (by kernel_rfl) ?_
          go_wp2_with fail
          go_meet
          exact ⟨_, rfl, rfl, set2 HBX.out _ _, (hEa.setR (p := ⟨wr.heap.size, 0, none⟩) (Nat.le_refl _) _).setR (p := ⟨wr.heap.size, 1, none⟩) (Nat.le_refl _) _, Nat.le_refl _⟩
      case rest =>
        obtain ⟨z, rfl, rfl, hz, hEc, hzz⟩ := hcut
        rename World => wd
        have hEx := hE.trans' hEc
        have y0 := (cell_of hz 0).trans rfl
        have y1 := (cell_of hz 1).trans rfl
        have zl := lt_of hz
        have hg9 := hEc.keep HG9.out
        clear c6 cg lg lm d6 cg2 lg2 lm2 cm cm2 ls ls2
        cases ok
        · have hnn : innF l m W (r + 1) = none := by
            have h1 := HOK0.out rfl
            simp only [innF, HIN.out, HDT.out, h1, Option.bind_some, Option.bind_none]
          have hnil := innF_none hnn (n := R) (by omega)
          obtain ⟨p0, p1, f0, f1, hl⟩ := zbox HZ0.out hEx
          have HNIL := Lib.hid hnil
          clear hg9 hnn hnil
          go_wp2_with fail
          refine bodyPost_ret (v := .tuple #[.agg #[.int .i64 0, .int .u64 0], .int .i64 4]) (by simp [results, Tryz.results124, go_sem, *]) rfl ⟨by rw [HNIL.out]; rfl, ?_⟩
          exact ((hE0.trans' hEx).setR (p := ⟨w.heap.size, 0, none⟩) (Nat.le_refl _) _).setR (p := ⟨w.heap.size, 1, none⟩) (Nat.le_refl _) _
        · obtain ⟨n, rfl, rfl, rfl⟩ := HOK1.out rfl
          have hwn : W128 n := dotF_w HDT.out
          have hwb : W128 best := innF_w HIN.out
          have HN1 := Lib.hid (fun w' => LOf_c n hwn w')
          have HN2 := Lib.hid (fun w' => LOf_c best hwb w')
          have HBL := Lib.hid (fun w' => LLess_c hwn hwb w')
          have a0 := (cell_of hg9 0).trans rfl
          have a1 := (cell_of hg9 1).trans rfl
          have al := lt_of hg9
          have HG9' := Lib.hid hg9
          have HZ := Lib.hid hz
          have hss : innF l m W (r + 1) = some (bif decide (r = 0) || decide (n < best) then n else best) := by
            simp only [innF, HIN.out, HDT.out, Option.bind_some]
          have HSS := Lib.hid hss
          clear hg9 hz hss hwn hwb
          go_wp2_with fail
          have hC0 := af_drew wd
          refine pi_start (fun w' => ∃ z : After wd, w' = z.w) [] (by kernel_rfl) ?_
          refine pi_c 0 (by assumption) rfl (by kernel_rfl) (by kernel_rfl) (fun _ _ _ _ h => h) (fun K hK => ?_)
          go_big_quiet_op
          refine hK _ ?_
          clear hK K
          refine pi_c 2 (by assumption) rfl (by kernel_rfl) (by kernel_rfl) (fun _ _ _ _ h => h) (fun K hK => ?_)
          go_big_quiet_op
          refine hK _ ?_
          clear hK K
          refine pi_l 1 rfl (by kernel_rfl) (fun K hK => ?_)
          go_wp2_with (go_at_call 176; refine (HN1.out _).mono ?_; rintro e wa ⟨rfl, hxa⟩)
          have hEa : Ext wd wa := Ext.trans' (Below.drew (Ext.refl wd)) hxa
          refine hK _ _ (fun _ h => af_step h hxa) ?_
          clear hK K hxa
          refine pi_l 3 rfl (by kernel_rfl) (fun K hK => ?_)
          go_wp2_with (go_at_call 176; refine (HN2.out _).mono ?_; rintro e wb ⟨rfl, hxb⟩)
          have hEb : Ext wd wb := hEa.trans' hxb
          refine hK _ _ (fun _ h => af_step h hxb) ?_
          clear hK K hxb
          refine pi_l 4 rfl (by kernel_rfl) (fun K hK => ?_)
          go_wp2_with (go_at_call 153; refine (LMinus_c best _).mono ?_; rintro e wc ⟨rfl, hxc⟩)
          have hEc2 : Ext wd wc := hEb.trans' hxc
          refine hK _ _ (fun _ h => af_step h hxc) ?_
          clear hK K hxc
          refine pi_l 5 rfl (by kernel_rfl) (fun K hK => ?_)
          go_wp2_with (go_at_call 151; refine (LPlus_c n (-best) _).mono ?_; rintro e we ⟨rfl, hxe⟩)
          have hEe : Ext wd we := hEc2.trans' hxe
          refine hK _ _ (fun _ h => af_step h hxe) ?_
          clear hK K hxe
          refine pi_l 6 rfl (by kernel_rfl) (fun K hK => ?_)
          go_wp2_with (go_at_call 175; refine (HBL.out _).mono ?_; rintro e wf ⟨rfl, hxf⟩)
          have hEf : Ext wd wf := hEe.trans' hxf
          refine hK _ _ (fun _ h => af_step h hxf) ?_
          clear hK K hxf hEa hEb hEc2 hEe
          refine pi_t 7 rfl (by kernel_rfl) (by kernel_rfl) (fun _ _ _ _ h => h) (fun K hK => ?_)
          go_big_quiet_op
          refine hK _ ?_
          clear hK K
          refine pi_end (by kernel_rfl) ?_
          have hg9' := hEf.keep HG9'.out
          have hz' := hEf.keep HZ.out
          clear a0 a1 al y0 y1 zl
          have y0 := (cell_of hz' 0).trans rfl
          have y1 := (cell_of hz' 1).trans rfl
          have zl := lt_of hz'
          have a0 := (cell_of hg9' 0).trans rfl
          have a1 := (cell_of hg9' 1).trans rfl
          have al := lt_of hg9'
          have f0 := frozen_of hg9' 0
          have f1 := frozen_of hg9' 1
          have HG := Lib.hid hg9'
          have hEy := hEx.trans' hEf
          clear hg9' hz'
          by_cases hr0 : r = 0
          · have hr0' : ((r : Int) == 0) = true := by simp [hr0]
            have hdd : (decide (r = 0) || decide (n < best)) = true := by simp [hr0]
            have HSS2 : Hid (innF l m W (r + 1) = some n) := Lib.hid (by rw [HSS.out, hdd]; rfl)
            clear hdd hr0
            go_wp2_with fail
            go_roundw
            case rel =>
              exact ⟨r + 1, n, by omega, by go_num, HSS2.out, (hEy.setR (p := ⟨w0.heap.size, 0, none⟩) (Nat.le_refl _) _).setR (p := ⟨w0.heap.size, 1, none⟩) (Nat.le_refl _) _, set2 HG.out _ _⟩
            case measure => simp [intOf]; omega
          · have hr0' : ((r : Int) == 0) = false := by simpa using hr0
            by_cases hlt : n < best
            · have hdd : (decide (r = 0) || decide (n < best)) = true := by simp [hlt]
              have HSS2 : Hid (innF l m W (r + 1) = some n) := Lib.hid (by rw [HSS.out, hdd]; rfl)
              have hld := decide_eq_true hlt
              clear hdd hr0 hlt
              go_wp2_with fail
              go_roundw
              case rel =>
                exact ⟨r + 1, n, by omega, by go_num, HSS2.out, (hEy.setR (p := ⟨w0.heap.size, 0, none⟩) (Nat.le_refl _) _).setR (p := ⟨w0.heap.size, 1, none⟩) (Nat.le_refl _) _, set2 HG.out _ _⟩
              case measure => simp [intOf]; omega
            · have hdd : (decide (r = 0) || decide (n < best)) = false := by simp [hlt, hr0]
              have HSS2 : Hid (innF l m W (r + 1) = some best) := Lib.hid (by rw [HSS.out, hdd]; rfl)
              have hld := decide_eq_false hlt
              clear hdd hr0 hlt
              go_wp2_with fail
              go_roundw
              case rel => exact ⟨r + 1, best, by omega, by go_num, HSS2.out, hEy, HG.out⟩
              case measure => simp [intOf]; omega
    · obtain rfl : r = R := by omega
      have HIN := Lib.hid hin
      have a0 := (cell_of hg9 0).trans rfl
      have a1 := (cell_of hg9 1).trans rfl
      have al := lt_of hg9
      obtain ⟨p0, p1, f0, f1, hl⟩ := zbox HZ0.out hE
      clear hin hg9 hs hs2
      go_wp2_with fail
      refine bodyPost_ret (v := .tuple #[.agg #[.int .i64 (hi best), .int .u64 (lo best)], .int .i64 0]) (by simp [results, Tryz.results124, go_sem, *]) rfl ⟨by rw [HIN.out]; rfl, ?_⟩
      exact ((hE0.trans' hE).setR (p := ⟨w.heap.size, 0, none⟩) (Nat.le_refl _) _).setR (p := ⟨w.heap.size, 1, none⟩) (Nat.le_refl _) _
end Go.Proofs.YtfhdjekpdifajaaGreat
namespace Go.Proofs.YtfhdjekpdifajaaGreat
set_option linter.unusedVariables false
open Go.RowKit
def EMergePost (w : World) (s b c : Nat) (C : Cfg) (lv : Int) (N : Nat) (m : List Int) (e : Ending) (w' : World) : Prop :=
  (allI m ∧ e = .returned (.int .i64 0) ∧ EAt w' s b c C lv N m ∧ Mod (fun k => k = c) w w') ∨ (¬ allI m ∧ e = .returned (.int .i64 4) ∧ Ext w w')
theorem EAt.putg {w w' : World} {s b c : Nat} {C : Cfg} {lv : Int} {N : Nat} {l m : List Int} (h : EAt w s b c C lv N l) (hg : GAt w' b c 1 N m) (hm : Mod (fun k => k = c) w w') (hi : allI m) : EAt w' s b c C lv N m :=
  ⟨by rw [hm.block s h.lts h.nes]; exact h.ex, hg, h.ok, h.lo, h.hi, h.hk, hi⟩
set_option maxRecDepth 20000 in
set_option maxHeartbeats 4000000 in
theorem EJoinPlus_c (s b c s2 b2 c2 : Nat) (C : Cfg) (lv : Int) (N : Nat) (l l2 : List Int) (w : World) (h : EAt w s b c C lv N l) (h2 : EAt w s2 b2 c2 C lv N l2) :
    Calls Tryz.prog 164 #[.pointer (some ⟨s, 0, none⟩), .pointer (some ⟨s2, 0, none⟩), .func (.func 163) #[] #[], .bool true] w (EMergePost w s b c C lv N (plusL l l2)) := by
  have HH := Lib.hid h
  have H2 := Lib.hid h2
  have c0 := (cell_of h.ex 0).trans rfl
  have c1 := (cell_of h.ex 1).trans rfl
  have c2' := (cell_of h.ex 2).trans rfl
  have c3 := (cell_of h.ex 3).trans rfl
  have c4 := (cell_of h.ex 4).trans rfl
  have c5 := (cell_of h.ex 5).trans rfl
  have d0 := (cell_of h2.ex 0).trans rfl
  have d1 := (cell_of h2.ex 1).trans rfl
  have d2 := (cell_of h2.ex 2).trans rfl
  have d3 := (cell_of h2.ex 3).trans rfl
  have d4 := (cell_of h2.ex 4).trans rfl
  have d5 := (cell_of h2.ex 5).trans rfl
  have l1 := h.lts
  have l2' := h2.lts
  clear h h2
  go_enter Tryz.func164, Tryz.ntmps164
  go_wp2_with fail
  refine wp_region_after (by kernel_rfl) (by kernel_rfl) ?_
  repeat (go_big_quiet_step (fail))
  refine wpQuiet_nil ?_
  rintro _ ⟨xx, rfl⟩
  obtain ⟨w1, hb1⟩ := xx
  try dsimp only
  clear c0 c1 c2' c3 c4 c5 d0 d1 d2 d3 d4 d5 l1 l2'
  have h' := HH.out.ext hb1
  have h2' := H2.out.ext hb1
  have c6 := (cell_of h'.ex 6).trans rfl
  have d6 := (cell_of h2'.ex 6).trans rfl
  have l1 := h'.lts
  have l2' := h2'.lts
  have hG1 := h'.g.ext (Below.drew (Ext.refl w1))
  have hG2 := h2'.g.ext (Below.drew (Ext.refl w1))
  have hf1 := h'.fit
  have hf2 := h2'.fit
  clear h' h2'
  go_wp2_with fail
  have hC0 := af_drew w1
  refine pi_start (fun w' => ∃ x : After w1, w' = x.w) [9] (by kernel_rfl) ?_
  refine pi_t 0 rfl (by kernel_rfl) (by kernel_rfl) (fun _ _ _ _ h => h) (fun K hK => ?_)
  go_big_quiet_op
  refine hK _ ?_
  clear hK K
  refine pi_t 1 rfl (by kernel_rfl) (by kernel_rfl) (fun _ _ _ _ h => h) (fun K hK => ?_)
  go_big_quiet_op
  refine hK _ ?_
  clear hK K
  refine pi_t 2 rfl (by kernel_rfl) (by kernel_rfl) (fun _ _ _ _ h => h) (fun K hK => ?_)
  go_big_quiet_op
  refine hK _ ?_
  clear hK K
  refine pi_t 3 rfl (by kernel_rfl) (by kernel_rfl) (fun _ _ _ _ h => h) (fun K hK => ?_)
  go_big_quiet_op
  refine hK _ ?_
  clear hK K
  refine pi_t 5 rfl (by kernel_rfl) (by kernel_rfl) (fun _ _ _ _ h => h) (fun K hK => ?_)
  go_big_quiet_op
  refine hK _ ?_
  clear hK K
  refine pi_t 6 rfl (by kernel_rfl) (by kernel_rfl) (fun _ _ _ _ h => h) (fun K hK => ?_)
  go_big_quiet_op
  refine hK _ ?_
  clear hK K
  refine pi_t 7 rfl (by kernel_rfl) (by kernel_rfl) (fun _ _ _ _ h => h) (fun K hK => ?_)
  go_big_quiet_op
  refine hK _ ?_
  clear hK K
  refine pi_c 4 (by assumption) rfl (by kernel_rfl) (by kernel_rfl) (fun _ _ _ _ h => h) (fun K hK => ?_)
  go_big_quiet_op
  refine hK _ ?_
  clear hK K
  refine pi_c 8 (by assumption) rfl (by kernel_rfl) (by kernel_rfl) (fun _ _ _ _ h => h) (fun K hK => ?_)
  go_big_quiet_op
  refine hK _ ?_
  clear hK K
  refine pi_l 9 rfl (by kernel_rfl) (fun K hK => ?_)
  go_wp2_with fail
  refine Calls.mono (GPlus_c b c b2 c2 1 N l l2 _ hG1 hG2 hf1 hf2) ?_
  intro e w2 hr0
  obtain ⟨z, rfl, hr⟩ := join_ret hr0
  clear hr0
  go_wp2
  refine hK _ _ (by simp) ?_
  clear hK K
  refine pi_t 10 rfl (by kernel_rfl) (by kernel_rfl) (fun _ _ _ _ h => h) (fun K hK => ?_)
  go_big_quiet_op
  refine hK _ ?_
  clear hK K
  refine pi_end (by kernel_rfl) ?_
  go_wp2
  go_ret
  have hx2 : Ext w w1.drew := Below.drew hb1
  rcases hr with ⟨rfl, ha, hg, hm⟩ | ⟨rfl, ha, hx⟩
  · have hm' : Mod (fun k => k = c) w w2 := (hx2.mod _).trans hm
    exact .inl ⟨ha, rfl, HH.out.putg hg hm' ha, hm'⟩
  · exact .inr ⟨ha, rfl, hx2.trans' hx⟩
set_option maxRecDepth 20000 in
set_option maxHeartbeats 4000000 in
theorem EJoinMinus_c (s b c s2 b2 c2 : Nat) (C : Cfg) (lv : Int) (N : Nat) (l l2 : List Int) (w : World) (h : EAt w s b c C lv N l) (h2 : EAt w s2 b2 c2 C lv N l2) :
    Calls Tryz.prog 164 #[.pointer (some ⟨s, 0, none⟩), .pointer (some ⟨s2, 0, none⟩), .func (.func 166) #[] #[], .bool true] w (EMergePost w s b c C lv N (minusL l l2)) := by
  have HH := Lib.hid h
  have H2 := Lib.hid h2
  have c0 := (cell_of h.ex 0).trans rfl
  have c1 := (cell_of h.ex 1).trans rfl
  have c2' := (cell_of h.ex 2).trans rfl
  have c3 := (cell_of h.ex 3).trans rfl
  have c4 := (cell_of h.ex 4).trans rfl
  have c5 := (cell_of h.ex 5).trans rfl
  have d0 := (cell_of h2.ex 0).trans rfl
  have d1 := (cell_of h2.ex 1).trans rfl
  have d2 := (cell_of h2.ex 2).trans rfl
  have d3 := (cell_of h2.ex 3).trans rfl
  have d4 := (cell_of h2.ex 4).trans rfl
  have d5 := (cell_of h2.ex 5).trans rfl
  have l1 := h.lts
  have l2' := h2.lts
  clear h h2
  go_enter Tryz.func164, Tryz.ntmps164
  go_wp2_with fail
  refine wp_region_after (by kernel_rfl) (by kernel_rfl) ?_
  repeat (go_big_quiet_step (fail))
  refine wpQuiet_nil ?_
  rintro _ ⟨xx, rfl⟩
  obtain ⟨w1, hb1⟩ := xx
  try dsimp only
  clear c0 c1 c2' c3 c4 c5 d0 d1 d2 d3 d4 d5 l1 l2'
  have h' := HH.out.ext hb1
  have h2' := H2.out.ext hb1
  have c6 := (cell_of h'.ex 6).trans rfl
  have d6 := (cell_of h2'.ex 6).trans rfl
  have l1 := h'.lts
  have l2' := h2'.lts
  have hG1 := h'.g.ext (Below.drew (Ext.refl w1))
  have hG2 := h2'.g.ext (Below.drew (Ext.refl w1))
  have hf1 := h'.fit
  have hf2 := h2'.fit
  clear h' h2'
  go_wp2_with fail
  have hC0 := af_drew w1
  refine pi_start (fun w' => ∃ x : After w1, w' = x.w) [9] (by kernel_rfl) ?_
  refine pi_t 0 rfl (by kernel_rfl) (by kernel_rfl) (fun _ _ _ _ h => h) (fun K hK => ?_)
  go_big_quiet_op
  refine hK _ ?_
  clear hK K
  refine pi_t 1 rfl (by kernel_rfl) (by kernel_rfl) (fun _ _ _ _ h => h) (fun K hK => ?_)
  go_big_quiet_op
  refine hK _ ?_
  clear hK K
  refine pi_t 2 rfl (by kernel_rfl) (by kernel_rfl) (fun _ _ _ _ h => h) (fun K hK => ?_)
  go_big_quiet_op
  refine hK _ ?_
  clear hK K
  refine pi_t 3 rfl (by kernel_rfl) (by kernel_rfl) (fun _ _ _ _ h => h) (fun K hK => ?_)
  go_big_quiet_op
  refine hK _ ?_
  clear hK K
  refine pi_t 5 rfl (by kernel_rfl) (by kernel_rfl) (fun _ _ _ _ h => h) (fun K hK => ?_)
  go_big_quiet_op
  refine hK _ ?_
  clear hK K
  refine pi_t 6 rfl (by kernel_rfl) (by kernel_rfl) (fun _ _ _ _ h => h) (fun K hK => ?_)
  go_big_quiet_op
  refine hK _ ?_
  clear hK K
  refine pi_t 7 rfl (by kernel_rfl) (by kernel_rfl) (fun _ _ _ _ h => h) (fun K hK => ?_)
  go_big_quiet_op
  refine hK _ ?_
  clear hK K
  refine pi_c 4 (by assumption) rfl (by kernel_rfl) (by kernel_rfl) (fun _ _ _ _ h => h) (fun K hK => ?_)
  go_big_quiet_op
  refine hK _ ?_
  clear hK K
  refine pi_c 8 (by assumption) rfl (by kernel_rfl) (by kernel_rfl) (fun _ _ _ _ h => h) (fun K hK => ?_)
  go_big_quiet_op
  refine hK _ ?_
  clear hK K
  refine pi_l 9 rfl (by kernel_rfl) (fun K hK => ?_)
  go_wp2_with fail
  refine Calls.mono (GMinus_c b c b2 c2 1 N l l2 _ hG1 hG2 hf1 hf2) ?_
  intro e w2 hr0
  obtain ⟨z, rfl, hr⟩ := join_ret hr0
  clear hr0
  go_wp2
  refine hK _ _ (by simp) ?_
  clear hK K
  refine pi_t 10 rfl (by kernel_rfl) (by kernel_rfl) (fun _ _ _ _ h => h) (fun K hK => ?_)
  go_big_quiet_op
  refine hK _ ?_
  clear hK K
  refine pi_end (by kernel_rfl) ?_
  go_wp2
  go_ret
  have hx2 : Ext w w1.drew := Below.drew hb1
  rcases hr with ⟨rfl, ha, hg, hm⟩ | ⟨rfl, ha, hx⟩
  · have hm' : Mod (fun k => k = c) w w2 := (hx2.mod _).trans hm
    exact .inl ⟨ha, rfl, HH.out.putg hg hm' ha, hm'⟩
  · exact .inr ⟨ha, rfl, hx2.trans' hx⟩
set_option maxRecDepth 20000 in
set_option maxHeartbeats 4000000 in
theorem EMerge_c (s b c s2 b2 c2 : Nat) (C : Cfg) (lv : Int) (N : Nat) (l l2 : List Int) (w : World) (h : EAt w s b c C lv N l) (h2 : EAt w s2 b2 c2 C lv N l2) :
    Calls Tryz.prog 112 #[.pointer (some ⟨s, 0, none⟩), .pointer (some ⟨s2, 0, none⟩)] w (EMergePost w s b c C lv N (plusL l l2)) := by
  go_enter Tryz.func112, Tryz.ntmps112
  go_wp2_with fail
  refine Calls.mono (EJoinPlus_c s b c s2 b2 c2 C lv N l l2 w h h2) ?_
  rintro e w' (⟨ha, rfl, hg, hm⟩ | ⟨ha, rfl, hx⟩)
  · go_wp2
    go_ret
    exact .inl ⟨ha, rfl, hg, hm⟩
  · go_wp2
    go_ret
    exact .inr ⟨ha, rfl, hx⟩
set_option maxRecDepth 20000 in
set_option maxHeartbeats 4000000 in
theorem ESubtract_c (s b c s2 b2 c2 : Nat) (C : Cfg) (lv : Int) (N : Nat) (l l2 : List Int) (w : World) (h : EAt w s b c C lv N l) (h2 : EAt w s2 b2 c2 C lv N l2) (hm : C.mode ≠ 2) :
    Calls Tryz.prog 116 #[.pointer (some ⟨s, 0, none⟩), .pointer (some ⟨s2, 0, none⟩)] w (EMergePost w s b c C lv N (minusL l l2)) := by
  have hmb : (C.mode == 2) = false := by simpa using hm
  have hmb2 : (C.mode != 2) = true := by simpa using hm
  have c3 := (cell_of h.ex 3).trans rfl
  have l1 := h.lts
  have HJ := Lib.hid (EJoinMinus_c s b c s2 b2 c2 C lv N l l2 w h h2)
  clear hm h h2
  go_enter Tryz.func116, Tryz.ntmps116
  go_wp2_with fail
  refine Calls.mono HJ.out ?_
  rintro e w' (⟨ha, rfl, hg, hm⟩ | ⟨ha, rfl, hx⟩)
  · go_wp2
    go_ret
    exact .inl ⟨ha, rfl, hg, hm⟩
  · go_wp2
    go_ret
    exact .inr ⟨ha, rfl, hx⟩
set_option maxRecDepth 20000 in
set_option maxHeartbeats 4000000 in
/-- In the mode Conservative nothing is taken away. -/
theorem ESubtract_mode (s b c s2 b2 c2 : Nat) (C : Cfg) (lv : Int) (N : Nat) (l l2 : List Int) (w : World) (h : EAt w s b c C lv N l) (h2 : EAt w s2 b2 c2 C lv N l2) (hm : C.mode = 2) :
    Calls Tryz.prog 116 #[.pointer (some ⟨s, 0, none⟩), .pointer (some ⟨s2, 0, none⟩)] w fun e w' => e = .returned (.int .i64 3) ∧ Ext w w' := by
  have hj : Calls Tryz.prog 164 #[.pointer (some ⟨s, 0, none⟩), .pointer (some ⟨s2, 0, none⟩), .func (.func 166) #[] #[], .bool false] w fun e w' => e = .returned (.int .i64 3) ∧ Ext w w' := by
    have c0 := (cell_of h.ex 0).trans rfl
    have c1 := (cell_of h.ex 1).trans rfl
    have c2' := (cell_of h.ex 2).trans rfl
    have c3 := (cell_of h.ex 3).trans rfl
    have c4 := (cell_of h.ex 4).trans rfl
    have c5 := (cell_of h.ex 5).trans rfl
    have d0 := (cell_of h2.ex 0).trans rfl
    have d1 := (cell_of h2.ex 1).trans rfl
    have d2 := (cell_of h2.ex 2).trans rfl
    have d3 := (cell_of h2.ex 3).trans rfl
    have d4 := (cell_of h2.ex 4).trans rfl
    have d5 := (cell_of h2.ex 5).trans rfl
    have l1 := h.lts
    have l2' := h2.lts
    clear h h2 hm
    go_enter Tryz.func164, Tryz.ntmps164
    go_wp2_with fail
    refine wp_region_after (by kernel_rfl) (by kernel_rfl) ?_
    repeat (go_big_quiet_step (fail))
    refine wpQuiet_nil ?_
    rintro _ ⟨xx, rfl⟩
    obtain ⟨w1, hb1⟩ := xx
    try dsimp only
    go_wp2
    go_ret
    exact ⟨rfl, hb1⟩
  have c3 := (cell_of h.ex 3).trans (show _ = some (Value.int .i64 2) by rw [← hm]; rfl)
  have l1 := h.lts
  clear hm
  go_enter Tryz.func116, Tryz.ntmps116
  go_wp2_with fail
  refine Calls.mono hj ?_
  rintro e w' ⟨rfl, hx⟩
  go_wp2
  go_ret
  exact ⟨rfl, hx⟩
set_option maxRecDepth 20000 in
set_option maxHeartbeats 8000000 in
/-- Unlike arrays are not put together. -/
theorem EJoin_no (P : Nat) (may : Bool) (s b c s2 b2 c2 : Nat) (C C2 : Cfg) (lv lv2 : Int) (N N2 : Nat) (l l2 : List Int) (w : World) (h : EAt w s b c C lv N l) (h2 : EAt w s2 b2 c2 C2 lv2 N2 l2) (hp : PartsAt C2 lv2 C lv) :
    Calls Tryz.prog 164 #[.pointer (some ⟨s, 0, none⟩), .pointer (some ⟨s2, 0, none⟩), .func (.func P) #[] #[], .bool may] w fun e w' => e = .returned (.int .i64 5) ∧ Ext w w' := by
  have c0 := (cell_of h.ex 0).trans rfl
  have c1 := (cell_of h.ex 1).trans rfl
  have c2' := (cell_of h.ex 2).trans rfl
  have c3 := (cell_of h.ex 3).trans rfl
  have c4 := (cell_of h.ex 4).trans rfl
  have c5 := (cell_of h.ex 5).trans rfl
  have d0 := (cell_of h2.ex 0).trans rfl
  have d1 := (cell_of h2.ex 1).trans rfl
  have d2 := (cell_of h2.ex 2).trans rfl
  have d3 := (cell_of h2.ex 3).trans rfl
  have d4 := (cell_of h2.ex 4).trans rfl
  have d5 := (cell_of h2.ex 5).trans rfl
  have l1 := h.lts
  have l2' := h2.lts
  clear h h2
  rcases hp with h | ⟨h0, h⟩ | ⟨h0, h1, h⟩ | ⟨h0, h1, h2, h⟩ | ⟨h0, h1, h2, h3, h⟩ | ⟨h0, h1, h2, h3, h4, h⟩
  all_goals
    go_enter Tryz.func164, Tryz.ntmps164
    go_wp2_with fail
    refine wp_region_after (by kernel_rfl) (by kernel_rfl) ?_
    repeat (go_big_quiet_step (fail))
    refine wpQuiet_nil ?_
    rintro _ ⟨xx, rfl⟩
    obtain ⟨w1, hb1⟩ := xx
    try dsimp only
    go_wp2
    go_ret
    exact ⟨rfl, hb1⟩
set_option maxRecDepth 20000 in
set_option maxHeartbeats 4000000 in
theorem EMerge_no (s b c s2 b2 c2 : Nat) (C C2 : Cfg) (lv lv2 : Int) (N N2 : Nat) (l l2 : List Int) (w : World) (h : EAt w s b c C lv N l) (h2 : EAt w s2 b2 c2 C2 lv2 N2 l2) (hp : PartsAt C2 lv2 C lv) :
    Calls Tryz.prog 112 #[.pointer (some ⟨s, 0, none⟩), .pointer (some ⟨s2, 0, none⟩)] w fun e w' => e = .returned (.int .i64 5) ∧ Ext w w' := by
  have hj := EJoin_no 163 true s b c s2 b2 c2 C C2 lv lv2 N N2 l l2 w h h2 hp
  have HJ := Lib.hid hj
  clear hj h h2 hp
  go_enter Tryz.func112, Tryz.ntmps112
  go_wp2_with fail
  refine Calls.mono HJ.out ?_
  rintro e w' ⟨rfl, hx⟩
  go_wp2
  go_ret
  exact ⟨rfl, hx⟩
end Go.Proofs.YtfhdjekpdifajaaGreat
namespace Go.Proofs.YtfhdjekpdifajaaGreat
set_option linter.unusedVariables false
open Go.RowKit
set_option maxRecDepth 20000 in
theorem sk_ss (s s2 : Nat) (w : World) :
    Calls Tryz.prog 109 #[.iface 170 (.pointer (some ⟨s, 0, none⟩)), .iface 170 (.pointer (some ⟨s2, 0, none⟩))] w fun e w' => e = .returned (.tuple #[.pointer (some ⟨s, 0, none⟩), .pointer (some ⟨s2, 0, none⟩), .bool true]) ∧ w = w' := by
  go_enter Tryz.func109, Tryz.ntmps109
  go_wp2_with fail
  refine (AsSketch_s s2 w).mono ?_
  rintro e w1 ⟨rfl, rfl⟩
  go_wp2_with fail
  refine (AsSketch_s s w).mono ?_
  rintro e w1 ⟨rfl, rfl⟩
  go_wp2_with fail
  refine (MustSketch_s s2 w).mono ?_
  rintro e w1 ⟨rfl, rfl⟩
  go_wp2
  go_ret3
  exact ⟨rfl, rfl⟩
set_option maxRecDepth 20000 in
theorem sk_xs (s s2 : Nat) (w : World) :
    Calls Tryz.prog 109 #[.iface 176 (.pointer (some ⟨s, 0, none⟩)), .iface 170 (.pointer (some ⟨s2, 0, none⟩))] w fun e w' => e = .returned (.tuple #[.pointer none, .pointer (some ⟨s2, 0, none⟩), .bool false]) ∧ w = w' := by
  go_enter Tryz.func109, Tryz.ntmps109
  go_wp2_with fail
  refine (AsSketch_s s2 w).mono ?_
  rintro e w1 ⟨rfl, rfl⟩
  go_wp2_with fail
  refine (AsSketch_x s w).mono ?_
  rintro e w1 ⟨rfl, rfl⟩
  go_wp2_with fail
  refine (MustSketch_s s2 w).mono ?_
  rintro e w1 ⟨rfl, rfl⟩
  go_wp2
  go_ret3
  exact ⟨rfl, rfl⟩
set_option maxRecDepth 20000 in
theorem sk_ix (t : TypeId) (s s2 : Nat) (w : World) :
    Calls Tryz.prog 109 #[.iface t (.pointer (some ⟨s, 0, none⟩)), .iface 176 (.pointer (some ⟨s2, 0, none⟩))] w fun e w' => e = .returned (.tuple #[.pointer none, .pointer none, .bool false]) ∧ w = w' := by
  go_enter Tryz.func109, Tryz.ntmps109
  go_wp2_with fail
  refine (AsSketch_x s2 w).mono ?_
  rintro e w1 ⟨rfl, rfl⟩
  go_wp2
  go_ret3
  exact ⟨rfl, rfl⟩
set_option maxRecDepth 20000 in
theorem arr_xx (s s2 : Nat) (w : World) :
    Calls Tryz.prog 111 #[.iface 176 (.pointer (some ⟨s, 0, none⟩)), .iface 176 (.pointer (some ⟨s2, 0, none⟩))] w fun e w' => e = .returned (.tuple #[.pointer (some ⟨s, 0, none⟩), .pointer (some ⟨s2, 0, none⟩), .bool true]) ∧ w = w' := by
  go_enter Tryz.func111, Tryz.ntmps111
  go_wp2
  go_ret3
  exact ⟨rfl, rfl⟩
set_option maxRecDepth 20000 in
theorem arr_sx (s s2 : Nat) (w : World) :
    Calls Tryz.prog 111 #[.iface 170 (.pointer (some ⟨s, 0, none⟩)), .iface 176 (.pointer (some ⟨s2, 0, none⟩))] w fun e w' => e = .returned (.tuple #[.pointer none, .pointer none, .bool false]) ∧ w = w' := by
  go_enter Tryz.func111, Tryz.ntmps111
  go_wp2
  go_ret3
  exact ⟨rfl, rfl⟩
set_option maxRecDepth 20000 in
theorem arr_xs (s s2 : Nat) (w : World) :
    Calls Tryz.prog 111 #[.iface 176 (.pointer (some ⟨s, 0, none⟩)), .iface 170 (.pointer (some ⟨s2, 0, none⟩))] w fun e w' => e = .returned (.tuple #[.pointer none, .pointer none, .bool false]) ∧ w = w' := by
  go_enter Tryz.func111, Tryz.ntmps111
  go_wp2
  go_ret3
  exact ⟨rfl, rfl⟩
set_option maxRecDepth 20000 in
set_option maxHeartbeats 4000000 in
theorem SSubtract_mode (s b c s2 b2 c2 : Nat) (C : Cfg) (lv : Int) (R W : Nat) (l l2 : List Int) (w : World) (h : SAt w s b c C lv R W l) (h2 : SAt w s2 b2 c2 C lv R W l2) (hm : C.mode = 2) :
    Calls Tryz.prog 115 #[.pointer (some ⟨s, 0, none⟩), .pointer (some ⟨s2, 0, none⟩)] w fun e w' => e = .returned (.int .i64 3) ∧ Ext w w' := by
  have HJ := Lib.hid (alike_yes s b c s2 b2 c2 C lv R W l l2 w h h2)
  have HH := Lib.hid h
  have HM := Lib.hid hm
  clear h h2 hm
  go_enter Tryz.func115, Tryz.ntmps115
  go_wp2_with fail
  refine Calls.mono HJ.out ?_
  rintro e w1 ⟨rfl, hx1⟩
  have h' := HH.out.ext hx1
  have c4 := (cell_of h'.ex 4).trans (show _ = some (Value.int .i64 2) by rw [← HM.out]; rfl)
  have l1 := h'.lts
  clear h'
  go_wp2
  go_ret
  exact ⟨rfl, hx1⟩
def LMergePost (w : World) (L : Lev) (C : Cfg) (lv : Int) (m : List Int) (e : Ending) (w' : World) : Prop :=
  (allI m ∧ e = .returned (.int .i64 0) ∧ LvAt w' L C lv m ∧ Mod (fun k => k = L.c) w w') ∨ (¬ allI m ∧ e = .returned (.int .i64 4) ∧ Ext w w')
set_option maxRecDepth 20000 in
set_option maxHeartbeats 4000000 in
theorem LMerge_c (C : Cfg) (lv : Int) (L L2 : Lev) (l l2 : List Int) (w : World) (h : LvAt w L C lv l) (h2 : LvAt w L2 C lv l2) :
    Calls Tryz.prog 41 #[lvV C lv L, lvV C lv L2] w (LMergePost w L C lv (plusL l l2)) := by
  cases hx : isX C lv with
  | true =>
    have HJ := Lib.hid (EMerge_c _ _ _ _ _ _ C lv _ l l2 w (h.x hx) (h2.x hx))
    have HX := Lib.hid hx
    rw [lvV_x hx, lvV_x hx]
    clear hx h h2
    go_enter Tryz.func41, Tryz.ntmps41
    go_wp2_with fail
    refine (sk_ix _ _ _ _).mono ?_
    rintro e w1 ⟨rfl, rfl⟩
    go_wp2_with fail
    refine (arr_xx _ _ _).mono ?_
    rintro e w1 ⟨rfl, rfl⟩
    go_wp2_with fail
    refine Calls.mono HJ.out ?_
    rintro e w' (⟨ha, rfl, hg, hm⟩ | ⟨ha, rfl, hx⟩)
    · go_wp2
      go_ret
      exact .inl ⟨ha, rfl, .inl ⟨HX.out, hg⟩, hm⟩
    · go_wp2
      go_ret
      exact .inr ⟨ha, rfl, hx⟩
  | false =>
    have HJ := Lib.hid (SMerge_c _ _ _ _ _ _ C lv _ _ l l2 w (h.sk hx) (h2.sk hx))
    have HX := Lib.hid hx
    rw [lvV_s hx, lvV_s hx]
    clear hx h h2
    go_enter Tryz.func41, Tryz.ntmps41
    go_wp2_with fail
    refine (sk_ss _ _ _).mono ?_
    rintro e w1 ⟨rfl, rfl⟩
    go_wp2_with fail
    refine Calls.mono HJ.out ?_
    rintro e w' (⟨ha, rfl, hg, hm⟩ | ⟨ha, rfl, hx⟩)
    · go_wp2
      go_ret
      exact .inl ⟨ha, rfl, .inr ⟨HX.out, hg⟩, hm⟩
    · go_wp2
      go_ret
      exact .inr ⟨ha, rfl, hx⟩
set_option maxRecDepth 20000 in
set_option maxHeartbeats 4000000 in
theorem LSubtract_c (C : Cfg) (lv : Int) (L L2 : Lev) (l l2 : List Int) (w : World) (h : LvAt w L C lv l) (h2 : LvAt w L2 C lv l2) (hm : C.mode ≠ 2) :
    Calls Tryz.prog 43 #[lvV C lv L, lvV C lv L2] w (LMergePost w L C lv (minusL l l2)) := by
  cases hx : isX C lv with
  | true =>
    have HJ := Lib.hid (ESubtract_c _ _ _ _ _ _ C lv _ l l2 w (h.x hx) (h2.x hx) hm)
    have HX := Lib.hid hx
    rw [lvV_x hx, lvV_x hx]
    clear hx h h2 hm
    go_enter Tryz.func43, Tryz.ntmps43
    go_wp2_with fail
    refine (sk_ix _ _ _ _).mono ?_
    rintro e w1 ⟨rfl, rfl⟩
    go_wp2_with fail
    refine (arr_xx _ _ _).mono ?_
    rintro e w1 ⟨rfl, rfl⟩
    go_wp2_with fail
    refine Calls.mono HJ.out ?_
    rintro e w' (⟨ha, rfl, hg, hm⟩ | ⟨ha, rfl, hx⟩)
    · go_wp2
      go_ret
      exact .inl ⟨ha, rfl, .inl ⟨HX.out, hg⟩, hm⟩
    · go_wp2
      go_ret
      exact .inr ⟨ha, rfl, hx⟩
  | false =>
    have HJ := Lib.hid (SSubtract_c _ _ _ _ _ _ C lv _ _ l l2 w (h.sk hx) (h2.sk hx) hm)
    have HX := Lib.hid hx
    rw [lvV_s hx, lvV_s hx]
    clear hx h h2 hm
    go_enter Tryz.func43, Tryz.ntmps43
    go_wp2_with fail
    refine (sk_ss _ _ _).mono ?_
    rintro e w1 ⟨rfl, rfl⟩
    go_wp2_with fail
    refine Calls.mono HJ.out ?_
    rintro e w' (⟨ha, rfl, hg, hm⟩ | ⟨ha, rfl, hx⟩)
    · go_wp2
      go_ret
      exact .inl ⟨ha, rfl, .inr ⟨HX.out, hg⟩, hm⟩
    · go_wp2
      go_ret
      exact .inr ⟨ha, rfl, hx⟩
set_option maxRecDepth 20000 in
set_option maxHeartbeats 4000000 in
theorem LSubtract_mode (C : Cfg) (lv : Int) (L L2 : Lev) (l l2 : List Int) (w : World) (h : LvAt w L C lv l) (h2 : LvAt w L2 C lv l2) (hm : C.mode = 2) :
    Calls Tryz.prog 43 #[lvV C lv L, lvV C lv L2] w fun e w' => e = .returned (.int .i64 3) ∧ Ext w w' := by
  cases hx : isX C lv with
  | true =>
    have HJ := Lib.hid (ESubtract_mode _ _ _ _ _ _ C lv _ l l2 w (h.x hx) (h2.x hx) hm)
    rw [lvV_x hx, lvV_x hx]
    clear hx h h2 hm
    go_enter Tryz.func43, Tryz.ntmps43
    go_wp2_with fail
    refine (sk_ix _ _ _ _).mono ?_
    rintro e w1 ⟨rfl, rfl⟩
    go_wp2_with fail
    refine (arr_xx _ _ _).mono ?_
    rintro e w1 ⟨rfl, rfl⟩
    go_wp2_with fail
    refine Calls.mono HJ.out ?_
    rintro e w' ⟨rfl, hx⟩
    go_wp2
    go_ret
    exact ⟨rfl, hx⟩
  | false =>
    have HJ := Lib.hid (SSubtract_mode _ _ _ _ _ _ C lv _ _ l l2 w (h.sk hx) (h2.sk hx) hm)
    rw [lvV_s hx, lvV_s hx]
    clear hx h h2 hm
    go_enter Tryz.func43, Tryz.ntmps43
    go_wp2_with fail
    refine (sk_ss _ _ _).mono ?_
    rintro e w1 ⟨rfl, rfl⟩
    go_wp2_with fail
    refine Calls.mono HJ.out ?_
    rintro e w' ⟨rfl, hx⟩
    go_wp2
    go_ret
    exact ⟨rfl, hx⟩
set_option maxRecDepth 20000 in
set_option maxHeartbeats 4000000 in
theorem LMerge_no (C C2 : Cfg) (lv lv2 : Int) (L L2 : Lev) (l l2 : List Int) (w : World) (h : LvAt w L C lv l) (h2 : LvAt w L2 C2 lv2 l2) (hp : PartsAt C2 lv2 C lv) :
    Calls Tryz.prog 41 #[lvV C lv L, lvV C2 lv2 L2] w fun e w' => e = .returned (.int .i64 5) ∧ Ext w w' := by
  cases hx : isX C lv with
  | true =>
    cases hy : isX C2 lv2 with
    | true =>
      have HJ := Lib.hid (EMerge_no _ _ _ _ _ _ C C2 lv lv2 _ _ l l2 w (h.x hx) (h2.x hy) hp)
      rw [lvV_x hx, lvV_x hy]
      clear hx hy h h2 hp
      go_enter Tryz.func41, Tryz.ntmps41
      go_wp2_with fail
      refine (sk_ix _ _ _ _).mono ?_
      rintro e w1 ⟨rfl, rfl⟩
      go_wp2_with fail
      refine (arr_xx _ _ _).mono ?_
      rintro e w1 ⟨rfl, rfl⟩
      go_wp2_with fail
      refine Calls.mono HJ.out ?_
      rintro e w' ⟨rfl, hx⟩
      go_wp2
      go_ret
      exact ⟨rfl, hx⟩
    | false =>
      rw [lvV_x hx, lvV_s hy]
      clear hx hy h h2 hp
      go_enter Tryz.func41, Tryz.ntmps41
      go_wp2_with fail
      refine (sk_xs _ _ _).mono ?_
      rintro e w1 ⟨rfl, rfl⟩
      go_wp2_with fail
      refine (arr_xs _ _ _).mono ?_
      rintro e w1 ⟨rfl, rfl⟩
      go_wp2
      go_ret
      exact ⟨rfl, Ext.refl _⟩
  | false =>
    cases hy : isX C2 lv2 with
    | true =>
      rw [lvV_s hx, lvV_x hy]
      clear hx hy h h2 hp
      go_enter Tryz.func41, Tryz.ntmps41
      go_wp2_with fail
      refine (sk_ix _ _ _ _).mono ?_
      rintro e w1 ⟨rfl, rfl⟩
      go_wp2_with fail
      refine (arr_sx _ _ _).mono ?_
      rintro e w1 ⟨rfl, rfl⟩
      go_wp2
      go_ret
      exact ⟨rfl, Ext.refl _⟩
    | false =>
      have HJ := Lib.hid (SMerge_no _ _ _ _ _ _ C C2 lv lv2 _ _ _ _ l l2 w (h.sk hx) (h2.sk hy) hp)
      rw [lvV_s hx, lvV_s hy]
      clear hx hy h h2 hp
      go_enter Tryz.func41, Tryz.ntmps41
      go_wp2_with fail
      refine (sk_ss _ _ _).mono ?_
      rintro e w1 ⟨rfl, rfl⟩
      go_wp2_with fail
      refine Calls.mono HJ.out ?_
      rintro e w' ⟨rfl, hx⟩
      go_wp2
      go_ret
      exact ⟨rfl, hx⟩
end Go.Proofs.YtfhdjekpdifajaaGreat
namespace Go.Proofs.YtfhdjekpdifajaaGreat
set_option linter.unusedVariables false
open Go.RowKit
/-- What the product of two levels is. -/
def lvInn (C : Cfg) (lv : Int) (l m : List Int) : Option Int := bif isX C lv then dotF l m (kN C lv) else innF l m (wN C) (rN C)
@[go_sem] theorem fld_mode (b r c m s : Int) (w : World) : (Instr.field 24 (.agg #[.int .i64 b, .int .i64 r, .int .i64 c, .int .i64 m, .int .u64 s]) 3).run Tryz.prog w = .ok (.int .i64 m) w := by kernel_rfl
set_option maxRecDepth 20000 in
set_option maxHeartbeats 8000000 in
theorem LInnerX_c (s b c s2 b2 c2 : Nat) (C : Cfg) (lv : Int) (N : Nat) (l m : List Int) (w : World) (h : EAt w s b c C lv N l) (h2 : EAt w s2 b2 c2 C lv N m) (hm : C.mode = 1) :
    Calls Tryz.prog 45 #[.iface 176 (.pointer (some ⟨s, 0, none⟩)), .iface 176 (.pointer (some ⟨s2, 0, none⟩))] w fun e w' => e = .returned (innV (dotF l m N)) ∧ Ext w w' := by
  have H := Lib.hid h
  have H2 := Lib.hid h2
  have hm' : (C.mode != 1) = false := by simp [hm]
  have hln := h.len
  have hln2 := h2.len
  have hN := h.g.w2
  have HI := Lib.hid h.fit
  have HI2 := Lib.hid h2.fit
  have HL := Lib.hid hln
  have HL2 := Lib.hid hln2
  clear h h2 hm hln hln2
  go_enter Tryz.func45, Tryz.ntmps45
  go_wp2_with fail
  refine (sk_ix _ _ _ _).mono ?_
  rintro e w1 ⟨rfl, rfl⟩
  go_wp2_with fail
  refine (arr_xx _ _ _).mono ?_
  rintro e w1 ⟨rfl, rfl⟩
  go_upto_region 5 with (fail)
  have hz0 := heap_at w (.cells #[.int .i64 0, .int .u64 0] 75) rfl
  have hE0 : Ext w (w.alloc (.cells #[.int .i64 0, .int .u64 0] 75)) := Ext.alloc' _ _
  generalize w.alloc (.cells #[.int .i64 0, .int .u64 0] 75) = w0 at *
  have HZ0 := Lib.hid hz0
  clear hz0
  go_cut [34] (fun s34 wx => s34 = .bool false ∧ Ext w0 wx)
  case first =>
    go_wp2_with (first | (go_at_call 120; refine (EConfig_c s b c C lv N l _ (H.out.ext (by (repeat' (first | exact Ext.refl _ | assumption | apply Ext.allocR | apply Ext.drewR | apply Ext.drewNR | (refine Ext.trans' ?_ (by assumption))))))).mono ?_; rintro e w1 ⟨rfl, hb1⟩) | (go_at_call 120; refine (EConfig_c s2 b2 c2 C lv N m _ (H2.out.ext (by (repeat' (first | exact Ext.refl _ | assumption | apply Ext.allocR | apply Ext.drewR | apply Ext.drewNR | (refine Ext.trans' ?_ (by assumption))))))).mono ?_; rintro e w2 ⟨rfl, hb2⟩) | (go_at_call 121; refine (ELevel_c s b c C lv N l _ (H.out.ext (by (repeat' (first | exact Ext.refl _ | assumption | apply Ext.allocR | apply Ext.drewR | apply Ext.drewNR | (refine Ext.trans' ?_ (by assumption))))))).mono ?_; rintro e w3 ⟨rfl, rfl⟩) | (go_at_call 121; refine (ELevel_c s2 b2 c2 C lv N m _ (H2.out.ext (by (repeat' (first | exact Ext.refl _ | assumption | apply Ext.allocR | apply Ext.drewR | apply Ext.drewNR | (refine Ext.trans' ?_ (by assumption))))))).mono ?_; rintro e w4 ⟨rfl, rfl⟩))
    go_meet
    exact ⟨by first | rfl | simp, by (repeat' (first | exact Ext.refl _ | assumption | apply Ext.allocR | apply Ext.drewR | apply Ext.drewNR | (refine Ext.trans' ?_ (by assumption))))⟩
  case rest =>
    obtain ⟨rfl, hEc⟩ := hcut
    go_wp2_with fail
    refine Calls.mono (EConfig_c s b c C lv N l _ (H.out.ext ?hx)) ?_
    case hx => (repeat' (first | exact Ext.refl _ | assumption | apply Ext.allocR | apply Ext.drewR | apply Ext.drewNR | (refine Ext.trans' ?_ (by assumption))))
    rintro e w1 ⟨rfl, hb1⟩
    have hE1 : Ext w0 w1 := by (repeat' (first | exact Ext.refl _ | assumption | apply Ext.allocR | apply Ext.drewR | apply Ext.drewNR | (refine Ext.trans' ?_ (by assumption))))
    clear hb1 hEc
    go_wp2_with fail
    refine Calls.mono (ECells_c s b c C lv N l _ (H.out.ext ?hx)) ?_
    case hx => (repeat' (first | exact Ext.refl _ | assumption | apply Ext.allocR | apply Ext.drewR | apply Ext.drewNR | (refine Ext.trans' ?_ (by assumption))))
    rintro e w2 ⟨v1, rfl, ho1, _, hx2⟩
    have hE2 : Ext w0 w2 := by (repeat' (first | exact Ext.refl _ | assumption | apply Ext.allocR | apply Ext.drewR | apply Ext.drewNR | (refine Ext.trans' ?_ (by assumption))))
    have hi1 := IntsAt.of_row ho1
    obtain ⟨p1, q1, rfl⟩ := own_sl ho1
    clear hx2 hE1 ho1
    go_wp2_with fail
    refine Calls.mono (ECells_c s2 b2 c2 C lv N m _ (H2.out.ext ?hx)) ?_
    case hx => (repeat' (first | exact Ext.refl _ | assumption | apply Ext.allocR | apply Ext.drewR | apply Ext.drewNR | (refine Ext.trans' ?_ (by assumption))))
    rintro e w3 ⟨v2, rfl, ho2, _, hx3⟩
    have hE3 : Ext w0 w3 := by (repeat' (first | exact Ext.refl _ | assumption | apply Ext.allocR | apply Ext.drewR | apply Ext.drewNR | (refine Ext.trans' ?_ (by assumption))))
    have hi2 := IntsAt.of_row ho2
    have hi1' := hi1.ext hx3
    obtain ⟨p2, q2, rfl⟩ := own_sl ho2
    have HI1 := Lib.hid hi1'
    have HI2' := Lib.hid hi2
    clear hx3 hE2 ho2 hi1 hi2 hi1'
    go_wp2_with fail
    refine Calls.mono (Dot_c l m _ _ _ HI.out HI2.out (by rw [HL.out, HL2.out]) (by rw [HL.out]; omega) HI1.out HI2'.out) ?_
    rintro e w4 ⟨rfl, hx4⟩
    have hE4 : Ext w0 w4 := by (repeat' (first | exact Ext.refl _ | assumption | apply Ext.allocR | apply Ext.drewR | apply Ext.drewNR | (refine Ext.trans' ?_ (by assumption))))
    obtain ⟨p0, p1', f0, f1, hl⟩ := zbox HZ0.out hE4
    rw [HL.out]
    clear hx4 hE3
    cases hd : dotF l m N with
    | none =>
      have HD := Lib.hid hd
      clear hd
      rw [show dotV none = .tuple #[.agg #[.int .i64 0, .int .u64 0], .bool false] from rfl]
      go_wp2_with fail
      refine bodyPost_ret (v := .tuple #[.agg #[.int .i64 0, .int .u64 0], .int .i64 4]) (by simp [results, Tryz.results45, go_sem, *]) rfl ⟨by rw [HD.out]; rfl, ?_⟩
      exact (((hE0.trans' hE4).setR (p := ⟨w.heap.size, 0, none⟩) (Nat.le_refl _) _).setR (p := ⟨w.heap.size, 1, none⟩) (Nat.le_refl _) _).allocR _
    | some z =>
      have HD := Lib.hid hd
      clear hd
      rw [show dotV (some z) = .tuple #[.agg #[.int .i64 (hi z), .int .u64 (lo z)], .bool true] from rfl]
      go_wp2_with fail
      refine bodyPost_ret (v := .tuple #[.agg #[.int .i64 (hi z), .int .u64 (lo z)], .int .i64 0]) (by simp [results, Tryz.results45, go_sem, *]) rfl ⟨by rw [HD.out]; rfl, ?_⟩
      exact (((hE0.trans' hE4).setR (p := ⟨w.heap.size, 0, none⟩) (Nat.le_refl _) _).setR (p := ⟨w.heap.size, 1, none⟩) (Nat.le_refl _) _).allocR _
set_option maxRecDepth 20000 in
set_option maxHeartbeats 8000000 in
/-- Of another mode than Linear there is none. -/
theorem LInnerX_mode (s b c s2 b2 c2 : Nat) (C : Cfg) (lv : Int) (N : Nat) (l m : List Int) (w : World) (h : EAt w s b c C lv N l) (h2 : EAt w s2 b2 c2 C lv N m) (hm : C.mode ≠ 1) :
    Calls Tryz.prog 45 #[.iface 176 (.pointer (some ⟨s, 0, none⟩)), .iface 176 (.pointer (some ⟨s2, 0, none⟩))] w fun e w' => e = .returned (.tuple #[.agg #[.int .i64 0, .int .u64 0], .int .i64 3]) ∧ Ext w w' := by
  have H := Lib.hid h
  have H2 := Lib.hid h2
  have hm' : (C.mode != 1) = true := by simpa using hm
  clear h h2 hm
  go_enter Tryz.func45, Tryz.ntmps45
  go_wp2_with fail
  refine (sk_ix _ _ _ _).mono ?_
  rintro e w1 ⟨rfl, rfl⟩
  go_wp2_with fail
  refine (arr_xx _ _ _).mono ?_
  rintro e w1 ⟨rfl, rfl⟩
  go_upto_region 5 with (fail)
  have hz0 := heap_at w (.cells #[.int .i64 0, .int .u64 0] 75) rfl
  have hE0 : Ext w (w.alloc (.cells #[.int .i64 0, .int .u64 0] 75)) := Ext.alloc' _ _
  generalize w.alloc (.cells #[.int .i64 0, .int .u64 0] 75) = w0 at *
  have HZ0 := Lib.hid hz0
  clear hz0
  go_cut [34] (fun s34 wx => s34 = .bool false ∧ Ext w0 wx)
  case first =>
    go_wp2_with (first | (go_at_call 120; refine (EConfig_c s b c C lv N l _ (H.out.ext (by (repeat' (first | exact Ext.refl _ | assumption | apply Ext.allocR | apply Ext.drewR | apply Ext.drewNR | (refine Ext.trans' ?_ (by assumption))))))).mono ?_; rintro e w1 ⟨rfl, hb1⟩) | (go_at_call 120; refine (EConfig_c s2 b2 c2 C lv N m _ (H2.out.ext (by (repeat' (first | exact Ext.refl _ | assumption | apply Ext.allocR | apply Ext.drewR | apply Ext.drewNR | (refine Ext.trans' ?_ (by assumption))))))).mono ?_; rintro e w2 ⟨rfl, hb2⟩) | (go_at_call 121; refine (ELevel_c s b c C lv N l _ (H.out.ext (by (repeat' (first | exact Ext.refl _ | assumption | apply Ext.allocR | apply Ext.drewR | apply Ext.drewNR | (refine Ext.trans' ?_ (by assumption))))))).mono ?_; rintro e w3 ⟨rfl, rfl⟩) | (go_at_call 121; refine (ELevel_c s2 b2 c2 C lv N m _ (H2.out.ext (by (repeat' (first | exact Ext.refl _ | assumption | apply Ext.allocR | apply Ext.drewR | apply Ext.drewNR | (refine Ext.trans' ?_ (by assumption))))))).mono ?_; rintro e w4 ⟨rfl, rfl⟩))
    go_meet
    exact ⟨by first | rfl | simp, by (repeat' (first | exact Ext.refl _ | assumption | apply Ext.allocR | apply Ext.drewR | apply Ext.drewNR | (refine Ext.trans' ?_ (by assumption))))⟩
  case rest =>
    obtain ⟨rfl, hEc⟩ := hcut
    go_wp2_with fail
    refine Calls.mono (EConfig_c s b c C lv N l _ (H.out.ext ?hx)) ?_
    case hx => (repeat' (first | exact Ext.refl _ | assumption | apply Ext.allocR | apply Ext.drewR | apply Ext.drewNR | (refine Ext.trans' ?_ (by assumption))))
    rintro e w1 ⟨rfl, hb1⟩
    have hE1 : Ext w0 w1 := by (repeat' (first | exact Ext.refl _ | assumption | apply Ext.allocR | apply Ext.drewR | apply Ext.drewNR | (refine Ext.trans' ?_ (by assumption))))
    obtain ⟨p0, p1, f0, f1, hl⟩ := zbox HZ0.out hE1
    clear hb1 hEc
    go_wp2_with fail
    refine bodyPost_ret (v := .tuple #[.agg #[.int .i64 0, .int .u64 0], .int .i64 3]) (by simp [results, Tryz.results45, go_sem, *]) rfl ⟨rfl, ?_⟩
    exact ((hE0.trans' hE1).setR (p := ⟨w.heap.size, 0, none⟩) (Nat.le_refl _) _).setR (p := ⟨w.heap.size, 1, none⟩) (Nat.le_refl _) _
set_option maxRecDepth 20000 in
set_option maxHeartbeats 8000000 in
/-- Two sketches: inner.Inner's answer. -/
theorem LInnerS_c (s s2 : Nat) (w : World) (h w0 : Int) (k : Int)
    (hI : ∀ W', Ext w W' → Calls Tryz.prog 119 #[.pointer (some ⟨s, 0, none⟩), .pointer (some ⟨s2, 0, none⟩)] W' fun e w' => e = .returned (.tuple #[.agg #[.int .i64 h, .int .u64 w0], .int .i64 k]) ∧ Ext W' w') :
    Calls Tryz.prog 45 #[.iface 170 (.pointer (some ⟨s, 0, none⟩)), .iface 170 (.pointer (some ⟨s2, 0, none⟩))] w fun e w' => e = .returned (.tuple #[.agg #[.int .i64 h, .int .u64 w0], .int .i64 k]) ∧ Ext w w' := by
  have HI := Lib.hid hI
  clear hI
  go_enter Tryz.func45, Tryz.ntmps45
  go_wp2_with fail
  refine (sk_ss _ _ _).mono ?_
  rintro e w1 ⟨rfl, rfl⟩
  go_wp2_with fail
  have hz0 := heap_at w (.cells #[.int .i64 0, .int .u64 0] 75) rfl
  have hE0 : Ext w (w.alloc (.cells #[.int .i64 0, .int .u64 0] 75)) := Ext.alloc' _ _
  generalize w.alloc (.cells #[.int .i64 0, .int .u64 0] 75) = wz at *
  refine (HI.out _ hE0).mono ?_
  rintro e w2 ⟨rfl, hx2⟩
  obtain ⟨p0, p1, f0, f1, hl⟩ := zbox hz0 hx2
  go_wp2_with fail
  refine bodyPost_ret (v := .tuple #[.agg #[.int .i64 h, .int .u64 w0], .int .i64 k]) (by simp [results, Tryz.results45, go_sem, *]) rfl ⟨rfl, ?_⟩
  exact ((hE0.trans' hx2).setR (p := ⟨w.heap.size, 0, none⟩) (Nat.le_refl _) _).setR (p := ⟨w.heap.size, 1, none⟩) (Nat.le_refl _) _
/-- The product of two levels of one config, Linear. -/
theorem LInner_c (C : Cfg) (lv : Int) (L L2 : Lev) (l m : List Int) (w : World) (h : LvAt w L C lv l) (h2 : LvAt w L2 C lv m) (hm : C.mode = 1) :
    Calls Tryz.prog 45 #[lvV C lv L, lvV C lv L2] w fun e w' => e = .returned (innV (lvInn C lv l m)) ∧ Ext w w' := by
  unfold lvInn
  cases hx : isX C lv with
  | true =>
    rw [lvV_x hx, lvV_x hx]
    exact LInnerX_c _ _ _ _ _ _ C lv _ l m w (h.x hx) (h2.x hx) hm
  | false =>
    rw [lvV_s hx, lvV_s hx]
    have := fun W' (he : Ext w W') => Inner_c _ _ _ _ _ _ C lv _ _ l m W' ((h.sk hx).ext he) ((h2.sk hx).ext he) hm
    show Calls _ _ _ _ fun e w' => e = .returned (innV (innF l m (wN C) (rN C))) ∧ _
    cases hi : innF l m (wN C) (rN C) with
    | none => rw [hi] at this; exact LInnerS_c _ _ w 0 0 4 this
    | some z => rw [hi] at this; exact LInnerS_c _ _ w _ _ 0 this
theorem LInner_mode (C : Cfg) (lv : Int) (L L2 : Lev) (l m : List Int) (w : World) (h : LvAt w L C lv l) (h2 : LvAt w L2 C lv m) (hm : C.mode ≠ 1) :
    Calls Tryz.prog 45 #[lvV C lv L, lvV C lv L2] w fun e w' => e = .returned (.tuple #[.agg #[.int .i64 0, .int .u64 0], .int .i64 3]) ∧ Ext w w' := by
  cases hx : isX C lv with
  | true =>
    rw [lvV_x hx, lvV_x hx]
    exact LInnerX_mode _ _ _ _ _ _ C lv _ l m w (h.x hx) (h2.x hx) hm
  | false =>
    rw [lvV_s hx, lvV_s hx]
    exact LInnerS_c _ _ w 0 0 3 fun W' he => Inner_mode _ _ _ _ _ _ C lv _ _ l m W' ((h.sk hx).ext he) ((h2.sk hx).ext he) hm
end Go.Proofs.YtfhdjekpdifajaaGreat
