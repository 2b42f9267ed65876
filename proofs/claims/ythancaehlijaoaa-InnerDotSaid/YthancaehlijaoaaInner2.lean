/- inner.Inner of two sketches of one config in the mode Linear: the least product of two rows. -/
import Derived.Test.YthancaehlijaoaaInner
namespace Go.Proofs.Ythancaehlijaoaa
set_option linter.unusedVariables false
open Go.RowKit

set_option maxRecDepth 20000 in
set_option maxHeartbeats 8000000 in
theorem Inner_c (s b c s2 b2 c2 : Nat) (C : Cfg) (lv : Int) (R W : Nat) (l m : List Int) (w : World) (h : SAt w s b c C lv R W l) (h2 : SAt w s2 b2 c2 C lv R W m) (hm : C.mode = 1) :
    Calls Try.prog 37 #[.pointer (some ⟨s, 0, none⟩), .pointer (some ⟨s2, 0, none⟩)] w fun e w' => e = .returned (innV (innF l m W R)) ∧ Ext w w' := by
  have H := Lib.hid h
  have H2 := Lib.hid h2
  have hm' : (C.mode != 1) = false := by simp [hm]
  have hR := h.hr
  have hW := h.hw
  have hR1 := h.g.r1
  have hR8 := h.g.r2
  have hW1 := h.g.w1
  have hW8 := h.g.w2
  have HR := Lib.hid hR
  have HW := Lib.hid hW
  have HL := Lib.hid h.g.len
  have HL2 := Lib.hid h2.g.len
  have HI := Lib.hid h.fit
  have HI2 := Lib.hid h2.fit
  clear h h2 hm hR hW
  go_enter Try.func37, Try.ntmps37
  go_upto_region 1 with (fail)
  have hz0 := heap_at w (.cells #[.int .i64 0, .int .u64 0] 56) rfl
  have hE0 : Ext w (w.alloc (.cells #[.int .i64 0, .int .u64 0] 56)) := Ext.alloc' _ _
  generalize w.alloc (.cells #[.int .i64 0, .int .u64 0] 56) = w0 at *
  have HZ0 := Lib.hid hz0
  clear hz0
  go_cut [34] (fun s34 wx => s34 = .bool false ∧ Ext w0 wx)
  case first =>
    go_wp2_with (first | (go_at_call 52; refine (SConfig_c s b c C lv R W l _ (H.out.ext (by (repeat' (first | exact Ext.refl _ | assumption | apply Ext.allocR | apply Ext.drewR | apply Ext.drewNR | (refine Ext.trans' ?_ (by assumption))))))).mono ?_; rintro e w1 ⟨rfl, hb1⟩) | (go_at_call 52; refine (SConfig_c s2 b2 c2 C lv R W m _ (H2.out.ext (by (repeat' (first | exact Ext.refl _ | assumption | apply Ext.allocR | apply Ext.drewR | apply Ext.drewNR | (refine Ext.trans' ?_ (by assumption))))))).mono ?_; rintro e w2 ⟨rfl, hb2⟩) | (go_at_call 53; refine (SLevel_c s b c C lv R W l _ (H.out.ext (by (repeat' (first | exact Ext.refl _ | assumption | apply Ext.allocR | apply Ext.drewR | apply Ext.drewNR | (refine Ext.trans' ?_ (by assumption))))))).mono ?_; rintro e w3 ⟨rfl, rfl⟩) | (go_at_call 53; refine (SLevel_c s2 b2 c2 C lv R W m _ (H2.out.ext (by (repeat' (first | exact Ext.refl _ | assumption | apply Ext.allocR | apply Ext.drewR | apply Ext.drewNR | (refine Ext.trans' ?_ (by assumption))))))).mono ?_; rintro e w4 ⟨rfl, rfl⟩))
    go_meet
    exact ⟨by first | rfl | simp, by (repeat' (first | exact Ext.refl _ | assumption | apply Ext.allocR | apply Ext.drewR | apply Ext.drewNR | (refine Ext.trans' ?_ (by assumption))))⟩
  case rest =>
    obtain ⟨rfl, hEc⟩ := hcut
    go_wp2_with fail
    refine Calls.mono (SConfig_c s b c C lv R W l _ (H.out.ext ?hx)) ?_
    case hx => (repeat' (first | exact Ext.refl _ | assumption | apply Ext.allocR | apply Ext.drewR | apply Ext.drewNR | (refine Ext.trans' ?_ (by assumption))))
    rintro e w1 ⟨rfl, hb1⟩
    have hE1 : Ext w0 w1 := by (repeat' (first | exact Ext.refl _ | assumption | apply Ext.allocR | apply Ext.drewR | apply Ext.drewNR | (refine Ext.trans' ?_ (by assumption))))
    have hCb : CfgAt (w1.alloc (.cells #[.int .i64 C.bits, .int .i64 C.rows, .int .i64 C.width, .int .i64 C.mode, .int .u64 C.seed] 24)) w1.heap.size C := CfgAt.box C _ rfl
    have hEB : Ext w1 (w1.alloc (.cells #[.int .i64 C.bits, .int .i64 C.rows, .int .i64 C.width, .int .i64 C.mode, .int .u64 C.seed] 24)) := Ext.alloc' _ _
    clear hb1 hEc
    go_wp2_with fail
    generalize w1.alloc (.cells #[.int .i64 C.bits, .int .i64 C.rows, .int .i64 C.width, .int .i64 C.mode, .int .u64 C.seed] 24) = w2 at *
    have hE2 := hE1.trans' hEB
    refine Calls.mono (SCells_c s b c C lv R W l _ (H.out.ext (by (repeat' (first | exact Ext.refl _ | assumption | apply Ext.allocR | apply Ext.drewR | apply Ext.drewNR | (refine Ext.trans' ?_ (by assumption))))))) ?_
    rintro e w3 ⟨v3, rfl, ho3, _, hx3⟩
    have hE3 : Ext w2 w3 := hx3
    have hi3 := IntsAt.of_row ho3
    obtain ⟨g1, o1, k1, rfl, hg1, hc1⟩ := hi3.slice (by rw [HL.out]; exact Nat.mul_pos hR1 hW1)
    obtain ⟨cp1, hcp1⟩ : ∃ c1, R * W ≤ k1 := ⟨0, by
      have h2 := ho3.2.resolve_left (fun h => by cases h.1)
      obtain ⟨g', cap', cur, hv', _, _, hc', _⟩ := h2
      have := (Value.slice.inj hv').2.2
      rw [HL.out] at hc'
      omega⟩
    rw [HL.out] at hi3 hc1 ⊢
    have HC1 := Lib.hid hc1
    clear ho3 hx3 hi3 hc1
    go_wp2_with fail
    refine Calls.mono (SCells_c s2 b2 c2 C lv R W m _ (H2.out.ext (by (repeat' (first | exact Ext.refl _ | assumption | apply Ext.allocR | apply Ext.drewR | apply Ext.drewNR | (refine Ext.trans' ?_ (by assumption))))))) ?_
    rintro e w4 ⟨v4, rfl, ho4, _, hx4⟩
    have hE4 : Ext w3 w4 := hx4
    have hi4 := IntsAt.of_row ho4
    obtain ⟨g2, o2, k2, rfl, hg2, hc2⟩ := hi4.slice (by rw [HL2.out]; exact Nat.mul_pos hR1 hW1)
    obtain ⟨cp2, hcp2⟩ : ∃ c1, R * W ≤ k2 := ⟨0, by
      have h2 := ho4.2.resolve_left (fun h => by cases h.1)
      obtain ⟨g', cap', cur, hv', _, _, hc', _⟩ := h2
      have := (Value.slice.inj hv').2.2
      rw [HL2.out] at hc'
      omega⟩
    rw [HL2.out] at hi4 hc2 ⊢
    have HC2 := Lib.hid hc2
    have hCb4 := hCb.ext (hE3.trans' hE4)
    have c1' := hCb4.c1
    have cl := hCb4.lt
    rw [HR.out] at c1'
    clear ho4 hx4 hi4 hc2
    have hE24 := hE3.trans' hE4
    have hEw4 : Ext w w4 := hE0.trans' (hE2.trans' hE24)
    have hz4 := (hE2.trans' hE24).keep HZ0.out
    have HZ4 := Lib.hid hz4
    have hg13 : g1 < w4.heap.size := Nat.lt_of_lt_of_le hg1 hE4.size
    have hc14 : ∀ j, j < R * W → w4.cell? ⟨g1, o1 + j, none⟩ = some (.int .i64 (l.getD j 0)) := fun j hj => ((bcell hE4).1 g1 _ hg1).trans (HC1.out j hj)
    have HC14 := Lib.hid hc14
    have HCB4 := Lib.hid hCb4
    have hN2 : R * W ≤ 1024 := Nat.le_trans (Nat.mul_le_mul hR8 hW8) (by decide)
    clear hz4 hc14 hCb4 hCb hE24 hE3 hE4 hE2 hE1 hEB HZ0 HC1 H H2
    go_wp2_with fail
    go_loopw [48] (fun u wr => ∃ (r : Nat) (best : Int), r ≤ R ∧ u = .int .i64 r ∧ innF l m W r = some best ∧ Ext w4 wr ∧ wr.heap[w4.heap.size]? = some (.cells #[.int .i64 (hi best), .int .u64 (lo best)] 56 (0, 0))) (fun u _ => R - (intOf u).toNat)
    case atStart => exact ⟨0, 0, Nat.zero_le _, rfl, rfl, Ext.alloc' _ _, heap_at _ _ rfl⟩
    case round =>
      obtain ⟨r, best, hr, rfl, hin, hE, hg9⟩ := hrel
      clear c1' cl
      by_cases hgo : r < R
      · have hCr := HCB4.out.ext hE
        have c2' := hCr.c2
        have cl := hCr.lt
        rw [HW.out] at c2'
        obtain ⟨f, hf⟩ : ∃ f, r * W = f := ⟨_, rfl⟩
        have hf1 : (r : Int) * (W : Int) = (f : Int) := by rw [← hf]; simp
        have hf2 : ((r : Int) + 1) * (W : Int) = ((f + W : Nat) : Int) := by rw [Int.add_mul, hf1]; simp
        have hfN : f + W ≤ R * W := by rw [← hf, ← Nat.succ_mul]; exact Nat.mul_le_mul_right _ hgo
        have hf1b : f + W ≤ 1024 := by omega
        have HIN := Lib.hid hin
        have HG9 := Lib.hid hg9
        have HFF := Lib.hid hf
        clear hin hg9 hCr hf
        go_wp2_with fail
        refine wp_region_after (by kernel_rfl) (by kernel_rfl) ?_
        repeat (go_big_quiet_step (fail))
        refine wpQuiet_nil ?_
        rintro _ ⟨xx, rfl⟩
        obtain ⟨wq, hq⟩ := xx
        try dsimp only
        obtain ⟨dt, hdt⟩ : ∃ dt, dotF (rowP l W r) (rowP m W r) W = dt := ⟨_, rfl⟩
        obtain ⟨rh, rl, ok, hdv, hok1, hok0⟩ : ∃ (rh rl : Int) (ok : Bool), dotV dt = .tuple #[.agg #[.int .i64 rh, .int .u64 rl], .bool ok] ∧ (ok = true → ∃ n, dt = some n ∧ rh = hi n ∧ rl = lo n) ∧ (ok = false → dt = none) := by
          cases dt with
          | none => exact ⟨0, 0, false, rfl, (fun h => by cases h), (fun _ => rfl)⟩
          | some n => exact ⟨hi n, lo n, true, rfl, (fun _ => ⟨n, rfl, rfl, rfl⟩), (fun h => by cases h)⟩
        have hEq : Ext w4 wq := hE.trans' hq
        have hi1 : ∀ (cc : Nat) (w' : World), Ext w4 w' → IntsAt w' (.slice (some ⟨g1, o1 + f, none⟩) W cc) (rowP l W r) := fun cc w' hE' => .inr ⟨g1, o1 + f, cc, by rw [rowP_len], Nat.lt_of_lt_of_le hg13 hE'.size, fun k hk => by
          rw [rowP_len] at hk
          rw [rowP_get _ hk, HFF.out, Nat.add_assoc]
          exact ((bcell hE').1 g1 _ hg13).trans (HC14.out (f + k) (by omega))⟩
        have hi2 : ∀ (cc : Nat) (w' : World), Ext w4 w' → IntsAt w' (.slice (some ⟨g2, o2 + f, none⟩) W cc) (rowP m W r) := fun cc w' hE' => .inr ⟨g2, o2 + f, cc, by rw [rowP_len], Nat.lt_of_lt_of_le hg2 hE'.size, fun k hk => by
          rw [rowP_len] at hk
          rw [rowP_get _ hk, HFF.out, Nat.add_assoc]
          exact ((bcell hE').1 g2 _ hg2).trans (HC2.out (f + k) (by omega))⟩
        have hdot : ∀ (cc cc2 : Nat) (w' : World), Ext w4 w' → Calls Try.prog 31 #[.slice (some ⟨g1, o1 + f, none⟩) W cc, .slice (some ⟨g2, o2 + f, none⟩) W cc2] w' fun e w'' => e = .returned (.tuple #[.agg #[.int .i64 rh, .int .u64 rl], .bool ok]) ∧ Ext w' w'' := by
          intro cc cc2 w' hE'
          have := Dot_c (rowP l W r) (rowP m W r) _ _ w' (rowP_all HI.out W r) (rowP_all HI2.out W r) (by rw [rowP_len, rowP_len]) (by rw [rowP_len]; omega) (hi1 cc w' hE') (hi2 cc2 w' hE')
          rw [rowP_len, hdt, hdv] at this
          exact this
        have HDOT := Lib.hid hdot
        have HDT := Lib.hid hdt
        have HOK1 := Lib.hid hok1
        have HOK0 := Lib.hid hok0
        clear hi1 hi2 hdot hdv hok1 hok0 hdt c2' cl hf1 hf2
        go_upto_region 12 with (fail)
        go_cut [13, 14] (fun s13 s14 wx => ∃ z : Nat, s13 = .pointer (some ⟨z, 0, none⟩) ∧ s14 = .bool ok ∧ wx.heap[z]? = some (.cells #[.int .i64 rh, .int .u64 rl] 56 (0, 0)) ∧ Ext wq wx ∧ wq.heap.size ≤ z)
        case first =>
          have hC0 := af_drew wq
          refine pi_start (fun w' => ∃ x : After wq, w' = x.w) [] (by kernel_rfl) ?_
          refine pi_t 0 rfl (by kernel_rfl) (by kernel_rfl) (fun _ _ _ _ h => h) (fun K hK => ?_)
          go_big_quiet_op
          refine hK _ ?_
          clear hK K
          refine pi_t 1 rfl (by kernel_rfl) (by kernel_rfl) (fun _ _ _ _ h => h) (fun K hK => ?_)
          go_big_quiet_op
          refine hK _ ?_
          clear hK K
          refine pi_t 2 rfl (by kernel_rfl) (by kernel_rfl) (fun _ _ _ _ h => h) (fun K hK => ?_)
          go_big_quiet_op
          refine hK _ ?_
          clear hK K
          refine pi_t 3 rfl (by kernel_rfl) (by kernel_rfl) (fun _ _ _ _ h => h) (fun K hK => ?_)
          go_big_quiet_op
          refine hK _ ?_
          clear hK K
          refine pi_t 4 rfl (by kernel_rfl) (by kernel_rfl) (fun _ _ _ _ h => h) (fun K hK => ?_)
          go_big_quiet_op
          refine hK _ ?_
          clear hK K
          refine pi_t 5 rfl (by kernel_rfl) (by kernel_rfl) (fun _ _ _ _ h => h) (fun K hK => ?_)
          go_big_quiet_op
          refine hK _ ?_
          clear hK K
          refine pi_t 6 rfl (by kernel_rfl) (by kernel_rfl) (fun _ _ _ _ h => h) (fun K hK => ?_)
          go_big_quiet_op
          refine hK _ ?_
          clear hK K
          refine pi_t 7 rfl (by kernel_rfl) (by kernel_rfl) (fun _ _ _ _ h => h) (fun K hK => ?_)
          go_big_quiet_op
          refine hK _ ?_
          clear hK K
          refine pi_t 8 rfl (by kernel_rfl) (by kernel_rfl) (fun _ _ _ _ h => h) (fun K hK => ?_)
          go_big_quiet_op
          refine hK _ ?_
          clear hK K
          refine pi_t 9 rfl (by kernel_rfl) (by kernel_rfl) (fun _ _ _ _ h => h) (fun K hK => ?_)
          go_big_quiet_op
          refine hK _ ?_
          clear hK K
          refine pi_b 10 14 rfl rfl (by kernel_rfl) (fun K hK => ?_) (fun K hK => ?_)
          · rw [Nat.add_sub_cancel_left]
            go_wp2_with (go_at_call 31; refine (HDOT.out _ _ _ (hEq.trans' (by (repeat' (first | exact Ext.refl _ | assumption | apply Ext.allocR | apply Ext.drewR | apply Ext.drewNR | (refine Ext.trans' ?_ (by assumption))))))).mono ?_; rintro e wa ⟨rfl, hxa⟩)
            refine hK _ _ (fun _ h => af_step h hxa) ?_
            clear hK K
            have hEa : Ext wq wa := Ext.trans' (Below.drew (Ext.refl wq)) hxa
            refine pi_t 11 rfl (by kernel_rfl) (by kernel_rfl) (fun _ _ _ _ h => h) (fun K hK => ?_)
            go_big_quiet_op
            refine hK _ ?_
            clear hK K
            refine pi_t 12 rfl (by kernel_rfl) (by kernel_rfl) (fun _ _ _ _ h => h) (fun K hK => ?_)
            go_big_quiet_op
            refine hK _ ?_
            clear hK K
            refine pi_t 13 rfl (by kernel_rfl) (by kernel_rfl) (fun _ _ _ _ h => h) (fun K hK => ?_)
            go_big_quiet_op
            refine hK _ ?_
            clear hK K
            refine pi_l 14 rfl (by kernel_rfl) (fun K hK => ?_)
            go_wp2
            refine hK _ _ (fun _ h => af_step h (Ext.alloc' _ _)) ?_
            clear hK K
            refine pi_l 15 rfl (by kernel_rfl) (fun K hK => ?_)
            go_wp2
            have hsz := hEa.size
            refine hK _ _ (fun _ h => ⟨⟨_, hEa.allocR _⟩, rfl⟩) ?_
            clear hK K
            refine pi_t 16 rfl (by kernel_rfl) (by kernel_rfl) (fun _ _ _ _ h => h) (fun K hK => ?_)
            go_big_quiet_op
            refine hK _ ?_
            clear hK K
            refine pi_end (by kernel_rfl) ?_
            go_wp2_with fail
            go_meet
            exact ⟨_, rfl, rfl, heap_at _ _ rfl, hEa.allocR _, hsz⟩
          · go_wp2
            refine hK _ _ (fun _ h => af_step h (Ext.alloc' _ _)) ?_
            clear hK K
            refine pi_l 10 rfl (by kernel_rfl) (fun K hK => ?_)
            rw [Nat.add_sub_cancel_left]
            go_wp2_with (go_at_call 31; refine (HDOT.out _ _ _ (hEq.trans' (by (repeat' (first | exact Ext.refl _ | assumption | apply Ext.allocR | apply Ext.drewR | apply Ext.drewNR | (refine Ext.trans' ?_ (by assumption))))))).mono ?_; rintro e wa ⟨rfl, hxa⟩)
            refine hK _ _ (fun _ h => af_step h hxa) ?_
            clear hK K
            have hEa : Ext wq wa := Ext.trans' (Ext.alloc' wq _) (Ext.trans' (Below.drew (Ext.refl _)) hxa)
            have hbx : wa.heap[wq.heap.size]? = some (.cells #[.int .i64 0, .int .u64 0] 56 (0, 0)) := hxa.keep (heap_at wq.drew _ rfl)
            have p0 := (cell_of hbx 0).trans rfl
            have p1 := (cell_of hbx 1).trans rfl
            have f0 := frozen_of hbx 0
            have f1 := frozen_of hbx 1
            have HBX := Lib.hid hbx
            clear hbx
            refine pi_t 11 rfl (by kernel_rfl) (by kernel_rfl) (fun _ _ _ _ h => h) (fun K hK => ?_)
            go_big_quiet_op
            refine hK _ ?_
            clear hK K
            refine pi_t 12 rfl (by kernel_rfl) (by kernel_rfl) (fun _ _ _ _ h => h) (fun K hK => ?_)
            go_big_quiet_op
            refine hK _ ?_
            clear hK K
            refine pi_t 13 rfl (by kernel_rfl) (by kernel_rfl) (fun _ _ _ _ h => h) (fun K hK => ?_)
            go_big_quiet_op
            refine hK _ ?_
            clear hK K
            refine pi_l 15 rfl (by kernel_rfl) (fun K hK => ?_)
            go_wp2
            refine hK _ _ (fun _ h => ⟨⟨_, (hEa.setR (p := ⟨wq.heap.size, 0, none⟩) (Nat.le_refl _) _).setR (p := ⟨wq.heap.size, 1, none⟩) (Nat.le_refl _) _⟩, rfl⟩) ?_
            clear hK K
            refine pi_t 16 rfl (by kernel_rfl) (by kernel_rfl) (fun _ _ _ _ h => h) (fun K hK => ?_)
            go_big_quiet_op
            refine hK _ ?_
            clear hK K
            refine pi_end (by kernel_rfl) ?_
            go_wp2_with fail
            go_meet
            exact ⟨_, rfl, rfl, set2 HBX.out _ _, (hEa.setR (p := ⟨wq.heap.size, 0, none⟩) (Nat.le_refl _) _).setR (p := ⟨wq.heap.size, 1, none⟩) (Nat.le_refl _) _, Nat.le_refl _⟩
        case rest =>
          obtain ⟨z, rfl, rfl, hz, hEc, hzz⟩ := hcut
          have hEx := hEq.trans' hEc
          have y0 := (cell_of hz 0).trans rfl
          have y1 := (cell_of hz 1).trans rfl
          have zl := lt_of hz
          have hg9 := (hq.trans' hEc).keep HG9.out
          have hls := lt_of HG9.out
          have hqs := hq.size
          cases ok
          · have hnn : innF l m W (r + 1) = none := by
              have h1 := HOK0.out rfl
              simp only [innF, HIN.out, HDT.out, h1, Option.bind_some, Option.bind_none]
            have hnil := innF_none hnn (n := R) (by omega)
            obtain ⟨p0, p1, f0, f1, hl⟩ := zbox HZ4.out hEx
            have HNIL := Lib.hid hnil
            clear hg9 hnn hnil
            go_wp2_with fail
            refine bodyPost_ret (v := .tuple #[.agg #[.int .i64 0, .int .u64 0], .int .i64 4]) (by simp [results, Try.results37, go_sem, *]) rfl ⟨by rw [HNIL.out]; rfl, ?_⟩
            exact ((hEw4.trans' hEx).setR (p := ⟨w.heap.size, 0, none⟩) (Nat.le_refl _) _).setR (p := ⟨w.heap.size, 1, none⟩) (Nat.le_refl _) _
          · obtain ⟨n, rfl, rfl, rfl⟩ := HOK1.out rfl
            have a0 := (cell_of hg9 0).trans rfl
            have a1 := (cell_of hg9 1).trans rfl
            have f0 := frozen_of hg9 0
            have f1 := frozen_of hg9 1
            have HG9' := Lib.hid hg9
            have hss : innF l m W (r + 1) = some (bif decide (r = 0) || decide (n < best) then n else best) := by
              simp only [innF, HIN.out, HDT.out, Option.bind_some]
            by_cases hr0 : r = 0
            · have hr0' : ((r : Int) == 0) = true := by simp [hr0]
              have hdd : (decide (r = 0) || decide (n < best)) = true := by simp [hr0]
              rw [hdd] at hss
              have HSS := Lib.hid hss
              clear hg9 hss hdd hr0
              go_wp2_with fail
              go_roundw
              case rel =>
                exact ⟨r + 1, n, by omega, by go_num, HSS.out, (hEx.setR (p := ⟨w4.heap.size, 0, none⟩) (Nat.le_refl _) _).setR (p := ⟨w4.heap.size, 1, none⟩) (Nat.le_refl _) _, set2 HG9'.out _ _⟩
              case measure => simp [intOf]; omega
            · have hr0' : ((r : Int) == 0) = false := by simpa using hr0
              by_cases hlt : n < best
              · have hdd : (decide (r = 0) || decide (n < best)) = true := by simp [hlt]
                rw [hdd] at hss
                have HSS := Lib.hid hss
                clear hg9 hss hdd hr0
                go_wp2_with fail
                refine Calls.mono (Less_c n best _) ?_
                rintro e wl ⟨rfl, hxl⟩
                rw [decide_eq_true hlt]
                have hz' := hxl.keep hz
                have y0' := (cell_of hz' 0).trans rfl
                have y1' := (cell_of hz' 1).trans rfl
                have zl' := lt_of hz'
                have hg9' := hxl.keep HG9'.out
                have a0' := (cell_of hg9' 0).trans rfl
                have a1' := (cell_of hg9' 1).trans rfl
                have f0' := frozen_of hg9' 0
                have f1' := frozen_of hg9' 1
                have HG9'' := Lib.hid hg9'
                clear hg9' hz'
                go_wp2_with fail
                go_roundw
                case rel =>
                  exact ⟨r + 1, n, by omega, by go_num, HSS.out, ((hEx.trans' hxl).setR (p := ⟨w4.heap.size, 0, none⟩) (Nat.le_refl _) _).setR (p := ⟨w4.heap.size, 1, none⟩) (Nat.le_refl _) _, set2 HG9''.out _ _⟩
                case measure => simp [intOf]; omega
              · have hdd : (decide (r = 0) || decide (n < best)) = false := by simp [hlt, hr0]
                rw [hdd] at hss
                have HSS := Lib.hid hss
                clear hg9 hss hdd hr0
                go_wp2_with fail
                refine Calls.mono (Less_c n best _) ?_
                rintro e wl ⟨rfl, hxl⟩
                rw [decide_eq_false (show ¬ n < best by omega)]
                have hg9' := hxl.keep HG9'.out
                have HG9'' := Lib.hid hg9'
                clear hg9'
                go_wp2_with fail
                go_roundw
                case rel => exact ⟨r + 1, best, by omega, by go_num, HSS.out, hEx.trans' hxl, HG9''.out⟩
                case measure => simp [intOf]; omega
      · obtain rfl : r = R := by omega
        have HIN := Lib.hid hin
        have a0 := (cell_of hg9 0).trans rfl
        have a1 := (cell_of hg9 1).trans rfl
        have al := lt_of hg9
        obtain ⟨p0, p1, f0, f1, hl⟩ := zbox HZ4.out hE
        clear hin hg9
        go_wp2_with fail
        refine bodyPost_ret (v := .tuple #[.agg #[.int .i64 (hi best), .int .u64 (lo best)], .int .i64 0]) (by simp [results, Try.results37, go_sem, *]) rfl ⟨by rw [HIN.out]; rfl, ?_⟩
        exact ((hEw4.trans' hE).setR (p := ⟨w.heap.size, 0, none⟩) (Nat.le_refl _) _).setR (p := ⟨w.heap.size, 1, none⟩) (Nat.le_refl _) _
end Go.Proofs.Ythancaehlijaoaa
