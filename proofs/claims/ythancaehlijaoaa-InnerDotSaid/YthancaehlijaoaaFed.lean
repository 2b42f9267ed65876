/- gaugerlaw10.fed makes a sketch and feeds it: it never refuses. -/
import Derived.Test.YthancaehlijaoaaFeed
import Derived.Test.YthancaehlijaoaaFedLaw
namespace Go.Proofs.Ythancaehlijaoaa
set_option linter.unusedVariables false
open Go.RowKit

/-- The config, level, rows and columns that a play stands for. -/
def fcfg (x : Cfg) (m : Int) : Cfg := { mkC x 8 9 with mode := m }
def flv (x : Cfg) (lv : Int) : Int := lv % 65536 % ((mkC x 8 9).bits + 1)
def fR (x : Cfg) : Nat := (mkC x 8 9).rows.toNat
def fW (x : Cfg) : Nat := (mkC x 8 9).width.toNat
theorem fcfg_ok (x : Cfg) (hs : U64 x.seed) {m : Int} (h1 : 1 ≤ m) (h2 : m ≤ 3) : (fcfg x m).Ok := by
  have h := mkC_ok x hs (nb := 8) (nw := 9) (by decide) (by decide) (by decide) (by decide)
  exact ⟨h.b1, h.b2, h.r1, h.r2, h.w1, h.w2, h1, h2, h.s⟩
theorem flv_bd (x : Cfg) (lv : Int) (m : Int) : 0 ≤ flv x lv ∧ flv x lv ≤ (fcfg x m).bits := by
  unfold flv fcfg mkC
  simp only
  have a1 := Int.emod_nonneg (x.bits % 65536) (show (8 : Int) ≠ 0 by decide)
  have b1 := Int.emod_nonneg (lv % 65536) (show (1 + x.bits % 65536 % 8 + 1) ≠ 0 by omega)
  have b2 := Int.emod_lt_of_pos (lv % 65536) (show 0 < (1 + x.bits % 65536 % 8 + 1) by omega)
  omega
theorem fR_eq (x : Cfg) (hs : U64 x.seed) (m : Int) : (fcfg x m).rows = fR x := by
  have h := mkC_ok x hs (nb := 8) (nw := 9) (by decide) (by decide) (by decide) (by decide)
  have := h.r1
  show (mkC x 8 9).rows = ((mkC x 8 9).rows.toNat : Int)
  omega
theorem fW_eq (x : Cfg) (hs : U64 x.seed) (m : Int) : (fcfg x m).width = fW x := by
  have h := mkC_ok x hs (nb := 8) (nw := 9) (by decide) (by decide) (by decide) (by decide)
  have := h.w1
  show (mkC x 8 9).width = ((mkC x 8 9).width.toNat : Int)
  omega
def FedPost (w : World) (x : Cfg) (m lv : Int) (us : List (Int × Int)) (i j : Nat) (e : Ending) (w' : World) : Prop :=
  ∃ s b c, e = .returned (.tuple #[.pointer (some ⟨s, 0, none⟩), .agg #[.int .i64 (fcfg x m).bits, .int .i64 (fcfg x m).rows, .int .i64 (fcfg x m).width, .int .i64 (fcfg x m).mode, .int .u64 (fcfg x m).seed], .int .i64 (flv x lv)]) ∧
    SAt w' s b c (fcfg x m) (flv x lv) (fR x) (fW x) (feed (fcfg x m) (flv x lv) (fR x) (fW x) (fus us i j) (zs (fR x * fW x))) ∧ w.heap.size ≤ s ∧ w.heap.size ≤ b ∧ w.heap.size ≤ c ∧ Ext w w'
set_option maxRecDepth 20000 in
set_option maxHeartbeats 4000000 in
theorem fed_c (x : Cfg) (hx : x.Raw) (m : Int) (hm1 : 1 ≤ m) (hm2 : m ≤ 3) (lv : Int) (hlv : I64 lv) (us : List (Int × Int)) (hus : UpsOk us) (v : Value) (i j : Nat) (hij : i ≤ j) (hj : j ≤ 60) (w : World) (hv : UpsAt w v us) (hul : us.length ≤ 140737488355328) :
    Calls Try.prog 18 #[.agg #[.int .i64 x.bits, .int .i64 x.rows, .int .i64 x.width, .int .i64 x.mode, .int .u64 x.seed, .int .i64 lv, v], .int .i64 m, .int .i64 i, .int .i64 j] w (FedPost w x m lv us i j) := by
  have hsl : ∃ p c, v = .slice p us.length c := by
    rcases hv with ⟨⟨_, rfl⟩, rfl⟩ | ⟨g, off, cap, rfl, _⟩
    · exact ⟨_, _, rfl⟩
    · exact ⟨_, _, rfl⟩
  obtain ⟨vp, vc, rfl⟩ := hsl
  have HV := Lib.hid hv
  have hok := fcfg_ok x hx.s hm1 hm2
  obtain ⟨lb1, lb2⟩ := flv_bd x lv m
  have hfl : lv % 65536 % ((fcfg x m).bits + 1) = flv x lv := rfl
  have hRe := fR_eq x hx.s m
  have hWe := fW_eq x hx.s m
  have e16 := and16 lv
  have hbits1 := hok.b1
  have hbits2 := hok.b2
  have z1 : ((fcfg x m).bits + 1 == 0) = false := by simp; omega
  have hxb : (mkC x 8 9).bits = (fcfg x m).bits := rfl
  have hxr : (mkC x 8 9).rows = (fcfg x m).rows := rfl
  have hxw : (mkC x 8 9).width = (fcfg x m).width := rfl
  have hxs : (mkC x 8 9).seed = (fcfg x m).seed := rfl
  have hxm : m = (fcfg x m).mode := rfl
  have HFL := Lib.hid hfl
  have HX := Lib.hid (And.intro hxb (And.intro hxr (And.intro hxw (And.intro hxs hxm))))
  have HRW := Lib.hid (And.intro hRe hWe)
  clear hv hRe hWe hxb hxr hxw hxs hxm hfl
  go_enter Try.func18, Try.ntmps18
  go_wp2_with fail
  refine (Any_c x hx 8 9 (by decide) (by decide) (by decide) (by decide) _).mono ?_
  rintro e w1 ⟨rfl, hb1⟩
  rw [HX.out.1, HX.out.2.1, HX.out.2.2.1, HX.out.2.2.2.1]
  have hs1 := hb1.size
  simp only [size_alloc] at hs1
  have k5 : w1.cell? ⟨w.heap.size, 5, none⟩ = some (.int .i64 lv) := by rw [(bcell hb1).1 _ _ (by simp only [size_alloc]; omega)]; simp [go_sem]
  have k6 : w1.cell? ⟨w.heap.size, 6, none⟩ = some (.slice vp us.length vc) := by rw [(bcell hb1).1 _ _ (by simp only [size_alloc]; omega)]; simp [go_sem]
  have kr : w1.heap[w.heap.size + 1]? = some (.cells #[.int .i64 0, .int .i64 0, .int .i64 0, .int .i64 0, .int .u64 0] 24 (0, 0)) := by
    rw [hb1.block _ (by simp only [size_alloc]; omega)]
    exact heap_at _ _ (by simp only [size_alloc])
  have KR := Lib.hid kr
  have hE1 : Ext w w1 := by (repeat' (first | exact Ext.refl _ | assumption | apply Ext.allocR | apply Ext.drewR | apply Ext.drewNR | (refine Ext.trans' ?_ (by assumption))))
  clear hb1 kr
  have n1 : w.heap.size < w1.heap.size := by omega
  have n2 : w.heap.size ≠ w1.heap.size := by omega
  have n3 : w.heap.size < w1.heap.size + 1 := by omega
  go_wp2_with fail
  rw [HFL.out]
  refine (SNew_c (fcfg x m) hok (flv x lv) lb1 lb2 (fR x) (fW x) HRW.out.1 HRW.out.2 _).mono ?_
  rintro e w2 ⟨s, b, c, rfl, hS, hs, hb, hc, hx2⟩
  have hs2 := hx2.size
  simp only [size_alloc] at hs2 hs hb hc
  have hE2 : Ext w w2 := by
    refine Ext.trans' ?_ hx2
    exact hE1.allocR _
  have j6 : w2.cell? ⟨w.heap.size, 6, none⟩ = some (.slice vp us.length vc) := by
    rw [(bcell hx2).1 _ _ (by simp only [size_alloc]; omega), World.cell?_alloc_lt _ _ _ n1]; exact k6
  have jr : w2.heap[w.heap.size + 1]? = some (.cells #[.int .i64 0, .int .i64 0, .int .i64 0, .int .i64 0, .int .u64 0] 24 (0, 0)) := by
    rw [hx2.block _ (by simp only [size_alloc]; omega), heap_old _ _ (by omega)]; exact KR.out
  have jc : w2.heap[w1.heap.size]? = some (.cells #[.int .i64 (fcfg x m).bits, .int .i64 (fcfg x m).rows, .int .i64 (fcfg x m).width, .int .i64 (fcfg x m).mode, .int .u64 (fcfg x m).seed] 24 (0, 0)) := by
    rw [hx2.block _ (by simp only [size_alloc]; omega)]
    exact heap_at _ _ rfl
  clear hx2 k5 k6
  go_wp2
  have hSne := hS.nes
  have hcw : w.heap.size ≤ c := by omega
  have hcw1 : w1.heap.size + 1 ≤ c := by omega
  have jlt : w1.heap.size < w2.heap.size := by omega
  have JC := Lib.hid jc
  have JR := Lib.hid jr
  have hM0 : Mod (fun i => i = c) w2 w2 := Mod.refl _ _
  have hS0 : SAt w2 s b c (fcfg x m) (flv x lv) (fR x) (fW x) (feed (fcfg x m) (flv x lv) (fR x) (fW x) (fus us i i) (zs (fR x * fW x))) := by
    rw [fus_self]; exact hS
  clear jc jr hS
  go_loopw [15] (fun u wr => ∃ k : Nat, i ≤ k ∧ (k = i ∨ (k ≤ j ∧ k ≤ us.length)) ∧ u = .int .i64 k ∧ Mod (fun i => i = c) w2 wr ∧ SAt wr s b c (fcfg x m) (flv x lv) (fR x) (fW x) (feed (fcfg x m) (flv x lv) (fR x) (fW x) (fus us i k) (zs (fR x * fW x)))) (fun u _ => j - (intOf u).toNat)
  case atStart => exact ⟨i, Nat.le_refl _, .inl rfl, rfl, hM0, hS0⟩
  case round =>
    clear hM0 hS0
    obtain ⟨k, hik, hkj, rfl, hM, hS⟩ := hrel
    have q6 := (mcell hM (b := w.heap.size) (by omega) (by omega) 6).trans j6
    have qc : wr.heap[w1.heap.size]? = _ := (hM.block _ (by omega) (by omega)).trans JC.out
    have c0 := (cell_of qc 0).trans rfl
    have c1 := (cell_of qc 1).trans rfl
    have c2 := (cell_of qc 2).trans rfl
    have c3 := (cell_of qc 3).trans rfl
    have c4 := (cell_of qc 4).trans rfl
    have hMs := hM.size
    have l1 : w.heap.size < wr.heap.size := by omega
    have l2 : w1.heap.size < wr.heap.size := by omega
    by_cases hgo : k < us.length ∧ k < j
    · obtain ⟨hg1, hg2⟩ := hgo
      have hkj60 : k < 60 := by omega
      obtain ⟨g, off, cap, hvv, hgl, hcell⟩ := HV.out.resolve_left (fun h => by rw [h.2] at hg1; simp at hg1)
      obtain ⟨rfl, rfl⟩ : vp = some ⟨g, off, none⟩ ∧ vc = cap := by simpa using hvv
      obtain ⟨d0, d1⟩ := hcell k hg1
      have d0 := (mcell hM (b := g) (by have := hE2.size; omega) (by omega) (off + k * 2)).trans (((bcell hE2).1 _ _ hgl).trans d0)
      have d1 := (mcell hM (b := g) (by have := hE2.size; omega) (by omega) (off + k * 2 + 1)).trans (((bcell hE2).1 _ _ hgl).trans d1)
      have hgl2 : g < wr.heap.size := by have := hE2.size; omega
      have hf := fus_snoc us hik hg1
      have hu := hus _ (List.getElem_mem hg1)
      have hget : us.getD k (0, 0) = us[k] := by simp [hg1]
      rw [hget] at d0 d1 hf
      generalize us[k] = uu at *
      obtain ⟨uk, ud⟩ := uu
      have HF := Lib.hid hf
      clear hf hget hvv hcell
      have herr := feed_ok (fcfg x m) hok (flv x lv) lb1 (fR x) (fW x) (fus us i k) (by have := fus_len us i k; omega) (uk, ud)
      have HERR := Lib.hid herr
      clear herr
      go_upto_region 10 with (fail)
      go_cut [16] (fun s16 wx => ∃ bu : Nat, s16 = .pointer (some ⟨bu, 0, none⟩) ∧ wx.heap[bu]? = some (.cells #[.int .u64 (cutK (fcfg x m) (flv x lv) uk), .int .i64 (cutD (fcfg x m).mode ud)] 34 (0, 0)) ∧ Ext wr wx ∧ wr.heap.size ≤ bu)
      case first =>
        have hC0 := af_drew wr
        refine pi_start (fun w' => ∃ x : After wr, w' = x.w) [] (by kernel_rfl) ?_
        refine pi_c 0 (by assumption) rfl (by kernel_rfl) (by kernel_rfl) (fun _ _ _ _ h => h) (fun K hK => ?_)
        go_big_quiet_op
        refine hK _ ?_
        clear hK K
        refine pi_t 1 rfl (by kernel_rfl) (by kernel_rfl) (fun _ _ _ _ h => h) (fun K hK => ?_)
        go_big_quiet_op
        refine hK _ ?_
        clear hK K
        refine pi_t 2 rfl (by kernel_rfl) (by kernel_rfl) (fun _ _ _ _ h => h) (fun K hK => ?_)
        go_big_quiet_op
        refine hK _ ?_
        clear hK K
        refine pi_c 3 (by assumption) rfl (by kernel_rfl) (by kernel_rfl) (fun _ _ _ _ h => h) (fun K hK => ?_)
        go_big_quiet_op
        refine hK _ ?_
        clear hK K
        refine pi_t 4 rfl (by kernel_rfl) (by kernel_rfl) (fun _ _ _ _ h => h) (fun K hK => ?_)
        go_big_quiet_op
        refine hK _ ?_
        clear hK K
        refine pi_t 5 rfl (by kernel_rfl) (by kernel_rfl) (fun _ _ _ _ h => h) (fun K hK => ?_)
        go_big_quiet_op
        refine hK _ ?_
        clear hK K
        refine pi_c 6 (by assumption) rfl (by kernel_rfl) (by kernel_rfl) (fun _ _ _ _ h => h) (fun K hK => ?_)
        go_big_quiet_op
        refine hK _ ?_
        clear hK K
        refine pi_b 7 8 rfl rfl (by kernel_rfl) (fun K hK => ?_) (fun K hK => ?_)
        · go_wp2_with (go_at_call 19; refine (cut_c (fcfg x m) hok (flv x lv) lb1 lb2 uk ud hu.1 hu.2 _).mono ?_; rintro e w3 ⟨rfl, hx3⟩)
          have hx3' : Ext wr w3 := Ext.trans' (Below.drew (Ext.refl wr)) hx3
          have hs3 := hx3'.size
          refine hK _ _ (fun _ h => af_step h hx3) ?_
          clear hK K
          refine pi_l 8 rfl (by kernel_rfl) (fun K hK => ?_)
          go_wp2
          refine hK _ _ (fun _ h => af_step h (Ext.alloc' _ _)) ?_
          clear hK K
          refine pi_l 9 rfl (by kernel_rfl) (fun K hK => ?_)
          go_wp2
          refine hK _ _ (fun _ _ => ⟨⟨_, hx3'.allocR _⟩, rfl⟩) ?_
          clear hK K
          refine pi_end (by kernel_rfl) ?_
          go_wp2_with fail
          go_meet
          exact ⟨w3.heap.size, rfl, heap_at _ _ rfl, hx3'.allocR _, hs3⟩
        · go_wp2
          refine hK _ _ (fun _ h => af_step h (Ext.alloc' _ _)) ?_
          clear hK K
          refine pi_l 7 rfl (by kernel_rfl) (fun K hK => ?_)
          go_wp2_with (go_at_call 19; refine (cut_c (fcfg x m) hok (flv x lv) lb1 lb2 uk ud hu.1 hu.2 _).mono ?_; rintro e w3 ⟨rfl, hx3⟩)
          refine hK _ _ (fun _ h => af_step h hx3) ?_
          clear hK K
          have hs3 : (wr.alloc (.cells #[.int .u64 0, .int .i64 0] 34)).heap.size ≤ w3.heap.size := hx3.size
          rw [size_alloc] at hs3
          have hx3' : Ext wr w3 := Ext.trans' (Ext.alloc' wr _) (Ext.trans' (Below.drew (Ext.refl _)) hx3)
          have hbx : w3.heap[wr.heap.size]? = some (.cells #[.int .u64 0, .int .i64 0] 34 (0, 0)) := by
            rw [hx3.block _ (by show _ < (wr.alloc _).heap.size; rw [size_alloc]; exact Nat.lt_succ_self _)]
            exact heap_at wr _ rfl
          have p0 := (cell_of hbx 0).trans rfl
          have p1 := (cell_of hbx 1).trans rfl
          have f0 := frozen_of hbx 0
          have f1 := frozen_of hbx 1
          refine pi_l 9 rfl (by kernel_rfl) (fun K hK => ?_)
          go_wp2
          refine hK _ _ (fun _ _ => ⟨⟨_, (hx3'.setR (Nat.le_refl _) _).setR (Nat.le_refl _) _⟩, rfl⟩) ?_
          clear hK K
          refine pi_end (by kernel_rfl) ?_
          go_wp2_with fail
          go_meet
          exact ⟨wr.heap.size, rfl, set2 hbx _ _, (hx3'.setR (Nat.le_refl _) _).setR (Nat.le_refl _) _, Nat.le_refl _⟩
      case rest =>
        obtain ⟨bu, rfl, hbu, hxw, hbul⟩ := hcut
        have b0 := (cell_of hbu 0).trans rfl
        have b1 := (cell_of hbu 1).trans rfl
        have hSc := hS.ext hxw
        have hdI : I64 (cutD (fcfg x m).mode ud) := by have := cutD_bd (fcfg x m).mode ud; unfold I64; omega
        have hkb := cutK_bd (fcfg x m) hok (flv x lv) uk lb1
        clear c0 c1 c2 c3 c4 q6 d0 d1 qc
        go_wp2_with fail
        refine (Update_c s b c (fcfg x m) (flv x lv) (fR x) (fW x) _ _ _ _ hSc hdI hkb.1).mono ?_
        rintro e w4 ⟨rfl, hup⟩
        rw [HERR.out]
        obtain ⟨_, hS4, hM4⟩ := hup.resolve_right (fun h => h.1 HERR.out)
        go_wp2
        go_roundw
        case rel =>
          refine ⟨k + 1, by omega, .inr ⟨by omega, by omega⟩, by go_num, hM.trans ((hxw.mod _).trans hM4), ?_⟩
          rw [HF.out, feed_snoc]
          exact hS4
        case measure => simp [intOf]; omega
    · have hfe := fus_end us hij hik hkj hgo
      have HFE := Lib.hid hfe
      have qr : wr.heap[w.heap.size + 1]? = _ := (hM.block _ (by omega) (by omega)).trans JR.out
      have p0 := (cell_of qr 0).trans rfl
      have p1 := (cell_of qr 1).trans rfl
      have p2 := (cell_of qr 2).trans rfl
      have p3 := (cell_of qr 3).trans rfl
      have p4 := (cell_of qr 4).trans rfl
      have f0 := frozen_of qr 0
      have f1 := frozen_of qr 1
      have f2 := frozen_of qr 2
      have f3 := frozen_of qr 3
      have f4 := frozen_of qr 4
      clear hfe
      have hEr : Ext w wr := by
        have := hM.below (B := w.heap.size) (by omega) (fun i hi => by omega)
        exact Below.trans hE2 this
      by_cases hg1 : k < us.length
      · have hg2 : ¬ k < j := fun h => hgo ⟨hg1, h⟩
        go_wp2
        have hC0 := af_drew wr
        refine pi_start (fun w' => ∃ x : After wr, w' = x.w) [4] (by kernel_rfl) ?_
        refine pi_t 0 rfl (by kernel_rfl) (by kernel_rfl) (fun _ _ _ _ h => h) (fun K hK => ?_)
        go_big_quiet_op
        refine hK _ ?_
        clear hK K
        refine pi_t 2 rfl (by kernel_rfl) (by kernel_rfl) (fun _ _ _ _ h => h) (fun K hK => ?_)
        go_big_quiet_op
        refine hK _ ?_
        clear hK K
        refine pi_c 1 (by assumption) rfl (by kernel_rfl) (by kernel_rfl) (fun _ _ _ _ h => h) (fun K hK => ?_)
        go_big_quiet_op
        refine hK _ ?_
        clear hK K
        refine pi_t 3 rfl (by kernel_rfl) (by kernel_rfl) (fun _ _ _ _ h => h) (fun K hK => ?_)
        go_big_quiet_op
        refine hK _ ?_
        clear hK K
        refine pi_l 4 rfl (by kernel_rfl) (fun K hK => ?_)
        go_wp2
        refine hK _ _ (by simp) ?_
        clear hK K
        refine pi_t 5 rfl (by kernel_rfl) (by kernel_rfl) (fun _ _ _ _ h => h) (fun K hK => ?_)
        go_big_quiet_op
        refine hK _ ?_
        clear hK K
        refine pi_end (by kernel_rfl) ?_
        go_wp2_with fail
        refine fin5 (Φ := fun W' => bodyPost _ _ _ _ _ W'.drew) (w := w) (W := wr) qr hEr (by omega) ?_
        intro Wf hf hE5 hof _
        have q0 := (cell_of hf 0).trans rfl
        have q1 := (cell_of hf 1).trans rfl
        have q2 := (cell_of hf 2).trans rfl
        have q3 := (cell_of hf 3).trans rfl
        have q4 := (cell_of hf 4).trans rfl
        refine bodyPost_ret (v := .tuple #[.pointer (some ⟨s, 0, none⟩), .agg #[.int .i64 (fcfg x m).bits, .int .i64 (fcfg x m).rows, .int .i64 (fcfg x m).width, .int .i64 (fcfg x m).mode, .int .u64 (fcfg x m).seed], .int .i64 (flv x lv)]) (by simp [results, Try.results18, go_sem, q0, q1, q2, q3, q4]) rfl ?_
        refine ⟨s, b, c, rfl, ?_, by omega, by omega, by omega, Below.drew hE5⟩
        rw [← HFE.out]
        refine SAt.keep (w := wr) hS (hof s (by omega)) (hof b (by omega)) (hof c (by omega))
      · go_wp2
        have hC0 := af_drew wr
        refine pi_start (fun w' => ∃ x : After wr, w' = x.w) [4] (by kernel_rfl) ?_
        refine pi_t 0 rfl (by kernel_rfl) (by kernel_rfl) (fun _ _ _ _ h => h) (fun K hK => ?_)
        go_big_quiet_op
        refine hK _ ?_
        clear hK K
        refine pi_t 2 rfl (by kernel_rfl) (by kernel_rfl) (fun _ _ _ _ h => h) (fun K hK => ?_)
        go_big_quiet_op
        refine hK _ ?_
        clear hK K
        refine pi_c 1 (by assumption) rfl (by kernel_rfl) (by kernel_rfl) (fun _ _ _ _ h => h) (fun K hK => ?_)
        go_big_quiet_op
        refine hK _ ?_
        clear hK K
        refine pi_t 3 rfl (by kernel_rfl) (by kernel_rfl) (fun _ _ _ _ h => h) (fun K hK => ?_)
        go_big_quiet_op
        refine hK _ ?_
        clear hK K
        refine pi_l 4 rfl (by kernel_rfl) (fun K hK => ?_)
        go_wp2
        refine hK _ _ (by simp) ?_
        clear hK K
        refine pi_t 5 rfl (by kernel_rfl) (by kernel_rfl) (fun _ _ _ _ h => h) (fun K hK => ?_)
        go_big_quiet_op
        refine hK _ ?_
        clear hK K
        refine pi_end (by kernel_rfl) ?_
        go_wp2_with fail
        refine fin5 (Φ := fun W' => bodyPost _ _ _ _ _ W'.drew) (w := w) (W := wr) qr hEr (by omega) ?_
        intro Wf hf hE5 hof _
        have q0 := (cell_of hf 0).trans rfl
        have q1 := (cell_of hf 1).trans rfl
        have q2 := (cell_of hf 2).trans rfl
        have q3 := (cell_of hf 3).trans rfl
        have q4 := (cell_of hf 4).trans rfl
        refine bodyPost_ret (v := .tuple #[.pointer (some ⟨s, 0, none⟩), .agg #[.int .i64 (fcfg x m).bits, .int .i64 (fcfg x m).rows, .int .i64 (fcfg x m).width, .int .i64 (fcfg x m).mode, .int .u64 (fcfg x m).seed], .int .i64 (flv x lv)]) (by simp [results, Try.results18, go_sem, q0, q1, q2, q3, q4]) rfl ?_
        refine ⟨s, b, c, rfl, ?_, by omega, by omega, by omega, Below.drew hE5⟩
        rw [← HFE.out]
        refine SAt.keep (w := wr) hS (hof s (by omega)) (hof b (by omega)) (hof c (by omega))
end Go.Proofs.Ythancaehlijaoaa
