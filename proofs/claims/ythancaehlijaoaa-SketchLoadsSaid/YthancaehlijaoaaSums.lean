/- gaugerlaw10.SketchSums, walked. -/
import Derived.Test.YthancaehlijaoaaBoxes
import Derived.Laws.OwnMore
namespace Go.Proofs.Ythancaehlijaoaa
set_option linter.unusedVariables false
open Go.RowKit

theorem own_keep {w w' : World} {base g : Nat} {e : TypeId} {n cap : Nat} {xs : List Value} (h : w.ownsRow base e 1 (.slice (some ⟨g, 0, none⟩) n cap) n xs) (hg : w'.heap[g]? = w.heap[g]?) : w'.ownsRow base e 1 (.slice (some ⟨g, 0, none⟩) n cap) n xs := by
  refine ⟨h.1, h.2.imp id ?_⟩
  rintro ⟨g', cap', cur, h', hb, hh, r⟩
  refine ⟨g', cap', cur, h', hb, ?_, r⟩
  obtain rfl : g = g' := by simpa using (Value.slice.inj h').1
  rw [hg]; exact hh
theorem own_put {w : World} {base g : Nat} {e : TypeId} {n cap : Nat} {l : List Int} (h : w.ownsRow base e 1 (.slice (some ⟨g, 0, none⟩) n cap) n (ints l)) (j : Nat) (x : Int) : (w.setCell ⟨g, j, none⟩ (.int .i64 x)).ownsRow base e 1 (.slice (some ⟨g, 0, none⟩) n cap) n (ints (l.set j x)) := by
  have := (h.stored j (.int .i64 x)).1
  unfold ints at *
  rw [List.map_set]; exact this
theorem mod_put {w w' : World} {g j : Nat} (h : Mod (fun i => i = g) w w') (u : Value) : Mod (fun i => i = g) w (w'.setCell ⟨g, j, none⟩ u) :=
  ⟨h.os, h.tape, h.output, by rw [size_setCell]; exact h.size, fun k hk hn => (setCell_other _ _ hn).trans (h.block k hk hn)⟩
theorem own_cell {w : World} {base g : Nat} {e : TypeId} {n cap : Nat} {l : List Int} (h : w.ownsRow base e 1 (.slice (some ⟨g, 0, none⟩) n cap) n (ints l)) {j : Nat} (hj : j < l.length) : w.cell? ⟨g, j, none⟩ = some (.int .i64 (l.getD j 0)) ∧ w.frozen? ⟨g, j, none⟩ = false := by
  obtain ⟨g', cap', cur, hv', _, hgh, _⟩ := h.2.resolve_left (fun h => by cases h.1)
  obtain rfl : g = g' := by simpa using (Value.slice.inj hv').1
  refine ⟨?_, frozen_of hgh j⟩
  obtain ⟨g2, o2, c2, hv2, _, hk⟩ := (IntsAt.of_row h).slice (by omega)
  have h1 := (Value.slice.inj hv2).1
  simp at h1
  obtain ⟨rfl, rfl⟩ := h1
  have := hk j hj
  rwa [Nat.zero_add] at this
/-- What the law itself sums: slots 12 .. 16 and the row. -/
def medM (med : Bool) : Int := bif med then 3 else 1
set_option maxRecDepth 20000 in
set_option maxHeartbeats 4000000 in
theorem Sums_c (x : Cfg) (hx : x.Raw) (med : Bool) (lv : Int) (hlv : I64 lv) (us : List (Int × Int)) (hus : UpsOk us) (v : Value) (w : World) (hv : UpsAt w v us) (hul : us.length ≤ 140737488355328) :
    Calls Try.prog 3 #[.agg #[.int .i64 x.bits, .int .i64 x.rows, .int .i64 x.width, .int .i64 x.mode, .int .u64 x.seed, .int .i64 lv, v], .bool med] w fun e w' => e = .returned (.bool true) ∧ Ext w w' := by
  have hsl : ∃ p c, v = .slice p us.length c := by
    rcases hv with ⟨⟨_, rfl⟩, rfl⟩ | ⟨g, off, cap, rfl, _⟩
    · exact ⟨_, _, rfl⟩
    · exact ⟨_, _, rfl⟩
  obtain ⟨vp, vc, rfl⟩ := hsl
  have HV := Lib.hid hv
  have hm1 : 1 ≤ medM med := by cases med <;> decide
  have hm2 : medM med ≤ 3 := by cases med <;> decide
  have hm3 : medM med ≠ 2 := by cases med <;> decide
  clear hv
  go_enter Try.func3, Try.ntmps3
  go_wp2_with fail
  refine (shown_c _).mono ?_
  rintro e w1 ⟨rfl, hb1⟩
  have hc := bcell hb1
  have hs1 := hb1.size
  simp only [size_alloc] at hs1
  have k0 : w1.cell? ⟨w.heap.size, 0, none⟩ = some (.int .i64 x.bits) := by rw [hc.1 _ _ (by simp only [size_alloc]; omega)]; simp [go_sem]
  have k1 : w1.cell? ⟨w.heap.size, 1, none⟩ = some (.int .i64 x.rows) := by rw [hc.1 _ _ (by simp only [size_alloc]; omega)]; simp [go_sem]
  have k2 : w1.cell? ⟨w.heap.size, 2, none⟩ = some (.int .i64 x.width) := by rw [hc.1 _ _ (by simp only [size_alloc]; omega)]; simp [go_sem]
  have k3 : w1.cell? ⟨w.heap.size, 3, none⟩ = some (.int .i64 x.mode) := by rw [hc.1 _ _ (by simp only [size_alloc]; omega)]; simp [go_sem]
  have k4 : w1.cell? ⟨w.heap.size, 4, none⟩ = some (.int .u64 x.seed) := by rw [hc.1 _ _ (by simp only [size_alloc]; omega)]; simp [go_sem]
  have k5 : w1.cell? ⟨w.heap.size, 5, none⟩ = some (.int .i64 lv) := by rw [hc.1 _ _ (by simp only [size_alloc]; omega)]; simp [go_sem]
  have k6 : w1.cell? ⟨w.heap.size, 6, none⟩ = some (.slice vp us.length vc) := by rw [hc.1 _ _ (by simp only [size_alloc]; omega)]; simp [go_sem]
  have hE1 : Ext w w1 := by (repeat' (first | exact Ext.refl _ | assumption | apply Ext.allocR | apply Ext.drewR | apply Ext.drewNR | (refine Ext.trans' ?_ (by assumption))))
  clear hc hb1
  go_upto_if 18 with (fail)
  go_cut [6] (fun s6 wx => s6 = .int .i64 (medM med) ∧ wx = w1)
  case first =>
    cases med
    · go_wp2_with fail
      go_meet
      exact ⟨rfl, rfl⟩
    · go_wp2_with fail
      go_meet
      exact ⟨rfl, rfl⟩
  case rest =>
    obtain ⟨rfl, rfl⟩ := hcut
    generalize hmm : medM med = m at *
    clear hmm
    have e2 := UpsAt.ext HV.out hE1
    go_wp2_with fail
    refine Calls.mono (fed_c x hx m hm1 hm2 lv hlv us hus _ 0 60 (by omega) (by omega) _ (e2.ext ?hx) hul) ?_
    case hx => (repeat' (first | exact Ext.refl _ | assumption | apply Ext.allocR | apply Ext.drewR | apply Ext.drewNR | (refine Ext.trans' ?_ (by assumption))))
    rintro e w2 ⟨s, b, c, rfl, hS, hs, hb, hc, hx2⟩
    have hs2 := hx2.size
    have hok := fcfg_ok x hx.s hm1 hm2
    obtain ⟨lb1, lb2⟩ := flv_bd x lv m
    have hCm : (fcfg x m).mode = m := rfl
    generalize fcfg x m = C at *
    generalize flv x lv = LV at *
    generalize fR x = R at *
    generalize fW x = W at *
    have HR := Lib.hid hS.hr
    have HW := Lib.hid hS.hw
    have q6 : w2.cell? ⟨w.heap.size, 6, none⟩ = some (.slice vp us.length vc) := by rw [(bcell hx2).1 _ _ (by omega)]; exact k6
    have hE2 : Ext w w2 := by (repeat' (first | exact Ext.refl _ | assumption | apply Ext.allocR | apply Ext.drewR | apply Ext.drewNR | (refine Ext.trans' ?_ (by assumption))))
    clear hx2 k0 k1 k2 k3 k4 k5 k6
    subst hCm
    go_wp2_with fail
    have w2' := hok.w2
    have w1' := hok.w1
    have r2' := hok.r2
    have r1' := hok.r1
    rw [HR.out] at r1' r2'
    rw [HW.out] at w1' w2'
    have hp0 : (R : Int) * (W : Int) = ((R * W : Nat) : Int) := by simp
    have hpn : R * W ≤ 1024 := Nat.le_trans (Nat.mul_le_mul (show R ≤ 8 by omega) (show W ≤ 128 by omega)) (by decide)
    have hpp : 1 ≤ R * W := Nat.mul_pos (by omega) (by omega)
    generalize hNN : R * W = N at *
    have HNN := Lib.hid hNN
    clear hNN
    have hp1 : 0 ≤ (R : Int) * (W : Int) := by rw [hp0]; omega
    have hp2 : (R : Int) * (W : Int) ≤ 1024 := by rw [hp0]; omega
    have jc := heap_at w2 (.cells #[.int .i64 C.bits, .int .i64 C.rows, .int .i64 C.width, .int .i64 C.mode, .int .u64 C.seed] 24) rfl
    have hEB : Ext w2 (w2.alloc (.cells #[.int .i64 C.bits, .int .i64 C.rows, .int .i64 C.width, .int .i64 C.mode, .int .u64 C.seed] 24)) := Ext.alloc' _ _
    have hzB : (w2.alloc (.cells #[.int .i64 C.bits, .int .i64 C.rows, .int .i64 C.width, .int .i64 C.mode, .int .u64 C.seed] 24)).heap.size = w2.heap.size + 1 := size_alloc _ _
    generalize w2.alloc (.cells #[.int .i64 C.bits, .int .i64 C.rows, .int .i64 C.width, .int .i64 C.mode, .int .u64 C.seed] 24) = wB at *
    have hRow0 : wB.ownsRow (w2.heap.size + 1) 2 1 (.slice none 0 0) (zs 0).length (ints (zs 0)) := ⟨rfl, .inl ⟨rfl, rfl⟩⟩
    have JC := Lib.hid jc
    have HP := Lib.hid hp0
    clear jc hp0
    go_loopw [10, 11] (fun u10 u11 wr => ∃ k : Nat, k ≤ N ∧ u11 = .int .i64 k ∧ wr.ownsRow (w2.heap.size + 1) 2 1 u10 (zs k).length (ints (zs k)) ∧ Ext wB wr) (fun u10 u11 wr => N - (intOf u11).toNat)
    case atStart => exact ⟨0, Nat.zero_le _, rfl, hRow0, Ext.refl _⟩
    case round =>
      clear hRow0
      obtain ⟨k, hk, rfl, hrow, hEr⟩ := hrel
      have hEs := hEr.size
      have qc : wr.heap[w2.heap.size]? = _ := (hEr.block _ (by omega)).trans JC.out
      have c0 := (cell_of qc 0).trans rfl
      have c1 := (cell_of qc 1).trans (show _ = some (Value.int .i64 (R : Int)) by rw [← HR.out]; rfl)
      have c2 := (cell_of qc 2).trans (show _ = some (Value.int .i64 (W : Int)) by rw [← HW.out]; rfl)
      have c3 := (cell_of qc 3).trans rfl
      have c4 := (cell_of qc 4).trans rfl
      by_cases hgo : k < N
      · have hd : decide ((k : Int) < (R : Int) * (W : Int)) = true := by rw [HP.out]; simp; omega
        go_wp2_with (at_builtin; refine wpList_app1 wr 0 _ u10 (w2.heap.size + 1) 2 hrow 32 rfl _ _ rfl info_i64 Try.underlying32 rfl rfl ?a1 ?a2 ?_)
        case a1 => rw [zs_len]; omega
        case a2 => omega
        intro v' w3 h1 h2 h3
        have hE3 : Ext wB w3 := ext_grown hEr h2 (fun k' hk' => by have := (hrow.lt k' hk').1; omega)
        rw [show zs k ++ [0] = zs (k + 1) from (List.replicate_succ' ..).symm] at h1
        clear h2 h3 hrow
        go_wp2
        go_roundw
        case rel => exact ⟨k + 1, by omega, by go_num, h1, hE3⟩
        case measure => simp [intOf]; omega
      · have hd : decide ((k : Int) < (R : Int) * (W : Int)) = false := by rw [HP.out]; simp; omega
        go_wp2_with fail
        obtain rfl : N = k := by omega
        rw [zs_len] at hrow
        obtain ⟨g, cap, cur0, rfl, hgb, hgh, _⟩ := hrow.2.resolve_left (fun h => by omega)
        clear hd c0 c1 c2 c3 c4 qc hgo hk
        rename World => wA
        have hgl := lt_of hgh
        have qA := (hEr.block _ (by omega)).trans JC.out
        have QA := Lib.hid qA
        have q6A : wA.cell? ⟨w.heap.size, 6, none⟩ = some (.slice vp us.length vc) := by rw [(bcell (Ext.trans' hEB hEr)).1 _ _ (by omega)]; exact q6
        have hEA : Ext w wA := by (repeat' (first | exact Ext.refl _ | assumption | apply Ext.allocR | apply Ext.drewR | apply Ext.drewNR | (refine Ext.trans' ?_ (by assumption))))
        have hSA := hS.ext (Ext.trans' hEB hEr)
        have hgs : g ≠ s ∧ g ≠ b ∧ g ≠ c := by
          have a1 := hS.lts
          have a2 := hS.g.ltb
          have a3 := hS.g.ltc
          refine ⟨?_, ?_, ?_⟩ <;> omega
        have hRow : wA.ownsRow (w2.heap.size + 1) 2 1 (.slice (some ⟨g, 0, none⟩) (N) cap) (N) (ints (feed C LV R W (fus us 0 0) (zs (N)))) := by rw [fus_self]; exact hrow
        have hM0 : Mod (fun i => i = g) wA wA := Mod.refl _ _
        have hAs := hEr.size
        clear hrow hgh q6 qA hS
        go_loopw [12] (fun u12 wr => ∃ k : Nat, k ≤ 60 ∧ k ≤ us.length ∧ u12 = .int .i64 k ∧ wr.ownsRow (w2.heap.size + 1) 2 1 (.slice (some ⟨g, 0, none⟩) (N) cap) (N) (ints (feed C LV R W (fus us 0 k) (zs (N)))) ∧ Mod (fun i => i = g) wA wr) (fun u12 wr => 60 - (intOf u12).toNat)
        case atStart => exact ⟨0, Nat.zero_le _, Nat.zero_le _, rfl, hRow, hM0⟩
        case round =>
          clear hM0 hRow
          obtain ⟨k, hk60, hkl, rfl, hrow, hM⟩ := hrel
          have hMs := hM.size
          have q6 := (mcell hM (b := w.heap.size) (by omega) (by omega) 6).trans q6A
          have qc : wr.heap[w2.heap.size]? = _ := (hM.block _ (by omega) (by omega)).trans QA.out
          have c0 := (cell_of qc 0).trans rfl
          have c1 := (cell_of qc 1).trans rfl
          have c2 := (cell_of qc 2).trans rfl
          have c3 := (cell_of qc 3).trans rfl
          have c4 := (cell_of qc 4).trans rfl
          have l1 : w.heap.size < wr.heap.size := by omega
          have l2 : w2.heap.size < wr.heap.size := by omega
          have l3 : g < wr.heap.size := by omega
          by_cases hgo : k < us.length ∧ k < 60
          · obtain ⟨hg1, hg2⟩ := hgo
            obtain ⟨ug, off, ucap, hvv, hul0, hcell⟩ := HV.out.resolve_left (fun h => by rw [h.2] at hg1; simp at hg1)
            obtain ⟨rfl, rfl⟩ : vp = some ⟨ug, off, none⟩ ∧ vc = ucap := by simpa using hvv
            obtain ⟨d0, d1⟩ := hcell k hg1
            have d0 := (mcell hM (b := ug) (by have := hEA.size; omega) (by have := hE2.size; omega) (off + k * 2)).trans (((bcell hEA).1 _ _ hul0).trans d0)
            have d1 := (mcell hM (b := ug) (by have := hEA.size; omega) (by have := hE2.size; omega) (off + k * 2 + 1)).trans (((bcell hEA).1 _ _ hul0).trans d1)
            have hgl2 : ug < wr.heap.size := by have := hEA.size; omega
            have hf := fus_snoc us (Nat.zero_le k) hg1
            have hu := hus _ (List.getElem_mem hg1)
            have hget : us.getD k (0, 0) = us[k] := by simp [hg1]
            rw [hget] at d0 d1 hf
            generalize us[k] = uu at *
            obtain ⟨uk, ud⟩ := uu
            have HF := Lib.hid hf
            have hbd := feed_bnd C LV R W (fus us 0 k)
            rw [HNN.out] at hbd
            have hfl := fus_len us 0 k
            clear hf hget hvv hcell
            go_upto_region 16 with (fail)
            go_cut [13] (fun s13 wx => ∃ bu : Nat, s13 = .pointer (some ⟨bu, 0, none⟩) ∧ wx.heap[bu]? = some (.cells #[.int .u64 (cutK C LV uk), .int .i64 (cutD C.mode ud)] 34 (0, 0)) ∧ Ext wr wx ∧ wr.heap.size ≤ bu)
            case first =>
              have hC0 := af_drew wr
              refine pi_start (fun w' => ∃ x : After wr, w' = x.w) [] (by kernel_rfl) ?_
              refine pi_c 0 (by assumption) rfl (by kernel_rfl) (by kernel_rfl) (fun _ _ _ _ h => h) (fun K hK => ?_)
              go_big_quiet_op
              refine hK _ ?_
              clear hK K
              refine pi_t 1 rfl (by kernel_rfl) (by kernel_rfl) (fun _ _ _ _ h => h) (fun K hK => ?_)
              go_big_quiet_op
              refine hK _ ?_
              clear hK K
              refine pi_t 2 rfl (by kernel_rfl) (by kernel_rfl) (fun _ _ _ _ h => h) (fun K hK => ?_)
              go_big_quiet_op
              refine hK _ ?_
              clear hK K
              refine pi_c 3 (by assumption) rfl (by kernel_rfl) (by kernel_rfl) (fun _ _ _ _ h => h) (fun K hK => ?_)
              go_big_quiet_op
              refine hK _ ?_
              clear hK K
              refine pi_t 4 rfl (by kernel_rfl) (by kernel_rfl) (fun _ _ _ _ h => h) (fun K hK => ?_)
              go_big_quiet_op
              refine hK _ ?_
              clear hK K
              refine pi_t 5 rfl (by kernel_rfl) (by kernel_rfl) (fun _ _ _ _ h => h) (fun K hK => ?_)
              go_big_quiet_op
              refine hK _ ?_
              clear hK K
              refine pi_c 6 (by assumption) rfl (by kernel_rfl) (by kernel_rfl) (fun _ _ _ _ h => h) (fun K hK => ?_)
              go_big_quiet_op
              refine hK _ ?_
              clear hK K
              refine pi_b 7 8 rfl rfl (by kernel_rfl) (fun K hK => ?_) (fun K hK => ?_)
              · go_wp2_with (go_at_call 19; refine (cut_c C hok LV lb1 lb2 uk ud hu.1 hu.2 _).mono ?_; rintro e w3 ⟨rfl, hx3⟩)
                have hx3' : Ext wr w3 := Ext.trans' (Below.drew (Ext.refl wr)) hx3
                have hs3 := hx3'.size
                refine hK _ _ (fun _ h => af_step h hx3) ?_
                clear hK K
                refine pi_l 8 rfl (by kernel_rfl) (fun K hK => ?_)
                go_wp2
                refine hK _ _ (fun _ h => af_step h (Ext.alloc' _ _)) ?_
                clear hK K
                refine pi_l 9 rfl (by kernel_rfl) (fun K hK => ?_)
                go_wp2
                refine hK _ _ (fun _ _ => ⟨⟨_, hx3'.allocR _⟩, rfl⟩) ?_
                clear hK K
                refine pi_end (by kernel_rfl) ?_
                go_wp2_with fail
                go_meet
                exact ⟨w3.heap.size, rfl, heap_at _ _ rfl, hx3'.allocR _, hs3⟩
              · go_wp2
                refine hK _ _ (fun _ h => af_step h (Ext.alloc' _ _)) ?_
                clear hK K
                refine pi_l 7 rfl (by kernel_rfl) (fun K hK => ?_)
                go_wp2_with (go_at_call 19; refine (cut_c C hok LV lb1 lb2 uk ud hu.1 hu.2 _).mono ?_; rintro e w3 ⟨rfl, hx3⟩)
                refine hK _ _ (fun _ h => af_step h hx3) ?_
                clear hK K
                have hs3 : (wr.alloc (.cells #[.int .u64 0, .int .i64 0] 34)).heap.size ≤ w3.heap.size := hx3.size
                rw [size_alloc] at hs3
                have hx3' : Ext wr w3 := Ext.trans' (Ext.alloc' wr _) (Ext.trans' (Below.drew (Ext.refl _)) hx3)
                have hbx : w3.heap[wr.heap.size]? = some (.cells #[.int .u64 0, .int .i64 0] 34 (0, 0)) := by
                  rw [hx3.block _ (by show _ < (wr.alloc _).heap.size; rw [size_alloc]; exact Nat.lt_succ_self _)]
                  exact heap_at wr _ rfl
                have p0 := (cell_of hbx 0).trans rfl
                have p1 := (cell_of hbx 1).trans rfl
                have f0 := frozen_of hbx 0
                have f1 := frozen_of hbx 1
                refine pi_l 9 rfl (by kernel_rfl) (fun K hK => ?_)
                go_wp2
                refine hK _ _ (fun _ _ => ⟨⟨_, (hx3'.setR (Nat.le_refl _) _).setR (Nat.le_refl _) _⟩, rfl⟩) ?_
                clear hK K
                refine pi_end (by kernel_rfl) ?_
                go_wp2_with fail
                go_meet
                exact ⟨wr.heap.size, rfl, set2 hbx _ _, (hx3'.setR (Nat.le_refl _) _).setR (Nat.le_refl _) _, Nat.le_refl _⟩
            case rest =>
              obtain ⟨bu, rfl, hbu, hxw, hbul⟩ := hcut
              have hkb := cutK_bd C hok LV uk lb1
              have hdb := cutD_bd C.mode ud
              have hxs := hxw.size
              have b1 := (cell_of hbu 1).trans rfl
              have b0 := (cell_of hbu 0).trans rfl
              have qcw : wc.heap[w2.heap.size]? = _ := (hxw.block _ l2).trans qc
              have e0 := (cell_of qcw 0).trans rfl
              have e1 := (cell_of qcw 1).trans rfl
              have e2 := (cell_of qcw 2).trans rfl
              have e3 := (cell_of qcw 3).trans rfl
              have e4 := (cell_of qcw 4).trans rfl
              have hbl := lt_of hbu
              have hMx : Mod (fun i => i = g) wA wc := hM.trans (hxw.mod _)
              have hrowx := own_keep hrow (hxw.block _ l3)
              have hnx : feed C LV R W (fus us 0 (k + 1)) (zs (N)) = putK W (cols C LV (cutK C LV uk)) (fun j => (feed C LV R W (fus us 0 k) (zs (N))).getD (at_ W (cols C LV (cutK C LV uk)) j) 0 + cutD C.mode ud) R (feed C LV R W (fus us 0 k) (zs (N))) := by
                rw [HF.out, feed_snoc]
                unfold updL
                rw [decide_eq_false hm3]
                rfl
              generalize cutK C LV uk = key at *
              generalize cutD C.mode ud = dd at *
              clear c0 c1 c2 c3 c4 q6 d0 d1 qc hM hrow
              go_wp2_with fail
              refine Calls.mono (Columns_c C hok LV key lb1 lb2 (by have := hok.b2; omega) hkb.1 hkb.2 _) ?_
              rintro e w4 ⟨v4, rfl, ho4, hx4⟩
              have hcs := cols_meets C hok LV key HR.out HW.out
              have hcl : C.rows.toNat = R := by have := HR.out; omega
              have hne := own_ne ho4 (c := g) (by omega)
              have hv4 := IntsAt.of_row ho4
              obtain ⟨vg, vo, vcap, rfl, hvl, hvc⟩ := hv4.slice (by rw [cols_len]; omega)
              rw [cols_len, hcl] at hvc
              have hx4s := hx4.size
              have hM4 : Mod (fun i => i = g) wA w4 := hMx.trans (by first | exact hx4.mod _ | exact (Ext.trans' (Below.drew (Ext.refl _)) hx4).mod _)
              have hE4 : Ext wc w4 := by (repeat' (first | exact Ext.refl _ | assumption | apply Ext.allocR | apply Ext.drewR | apply Ext.drewNR | (refine Ext.trans' ?_ (by assumption))))
              have hrow4 := own_keep hrowx (hE4.block g (by omega))
              have b1' := ((bcell hE4).1 bu 1 hbl).trans b1
              have B1 := Lib.hid b1'
              have hvg : vg ≠ g := hne _ _ _ _ rfl
              have hvc' : ∀ k, k < R → w4.cell? ⟨vg, vo + k, none⟩ = some (.int .i64 ((cols C LV key).getD k 0)) := hvc
              rw [cols_len, hcl]
              generalize cols C LV key = cs at *
              have CS := Lib.hid hvc'
              generalize feed C LV R W (fus us 0 k) (zs (N)) = L at *
              have HN := Lib.hid hnx
              have hLl : L.length = N := by have := hrow4.1; simpa [ints] using this
              have hbd' : ∀ a, a < N → -65970697666560 ≤ L.getD a 0 ∧ L.getD a 0 ≤ 65970697666560 := by
                intro a ha
                have hg : L.getD a 0 = L[a]'(by omega) := by simp [show a < L.length by omega]
                rw [hg]
                have := hbd _ (List.getElem_mem (l := L) (n := a) (by omega))
                have hl60 : ((fus us 0 k).length : Int) ≤ 60 := by omega
                constructor <;> omega
              have hqw4 : w4.heap[w2.heap.size]? = _ := (hE4.block _ (by omega)).trans qcw
              have QW := Lib.hid hqw4
              have hR0 : w4.ownsRow (w2.heap.size + 1) 2 1 (.slice (some ⟨g, 0, none⟩) (N) cap) (N) (ints (putK W cs (fun j => L.getD (at_ W cs j) 0 + dd) 0 L)) := hrow4
              have hM40 : Mod (fun i => i = g) w4 w4 := Mod.refl _ _
              clear hnx hbd hqw4 hvc hvc' hv4 ho4 hne b0 b1 b1' hrowx hrow4 e0 e1 e2 e3 e4 qcw hx4
              go_wp2_with fail
              go_loopw [15] (fun u15 wr => ∃ r : Nat, r ≤ R ∧ u15 = .int .i64 r ∧ wr.ownsRow (w2.heap.size + 1) 2 1 (.slice (some ⟨g, 0, none⟩) (N) cap) (N) (ints (putK W cs (fun j => L.getD (at_ W cs j) 0 + dd) r L)) ∧ Mod (fun i => i = g) w4 wr) (fun u15 _ => R - (intOf u15).toNat)
              case atStart => exact ⟨0, Nat.zero_le _, rfl, hR0, hM40⟩
              case round =>
                clear hR0 hM40
                rename World => wv
                obtain ⟨r, hr, rfl, hrow, hM⟩ := hrel
                have hMs := hM.size
                have qc : wv.heap[w2.heap.size]? = _ := (hM.block _ (by omega) (by omega)).trans QW.out
                have c1 := (cell_of qc 1).trans (show _ = some (Value.int .i64 (R : Int)) by rw [← HR.out]; rfl)
                have c2 := (cell_of qc 2).trans (show _ = some (Value.int .i64 (W : Int)) by rw [← HW.out]; rfl)
                have l1' : w2.heap.size < wv.heap.size := by omega
                have l2' : bu < wv.heap.size := by omega
                have l3' : g < wv.heap.size := by omega
                have l4' : vg < wv.heap.size := by omega
                by_cases hgo : r < R
                · have d1 := (mcell hM (b := bu) (by omega) (by omega) 1).trans B1.out
                  have pc := (mcell hM (b := vg) (by omega) hvg (vo + r)).trans (CS.out r hgo)
                  have a0 := hcs.lo r hgo
                  have a1 := hcs.hi r hgo
                  have ha := hcs.at_lt hgo
                  rw [HNN.out] at ha
                  have hAt : (r : Int) * (W : Int) + cs.getD r 0 = ((at_ W cs r : Nat) : Int) := by
                    unfold at_
                    rw [Int.natCast_add, Int.natCast_mul, Int.toNat_of_nonneg a0]
                  have hrw0 : (r : Int) * (W : Int) = ((r * W : Nat) : Int) := by simp
                  have hrw3 : r * W ≤ N := HNN.out ▸ Nat.mul_le_mul_right W (by omega)
                  have hrw1 : 0 ≤ (r : Int) * (W : Int) := by rw [hrw0]; omega
                  have hrw2 : (r : Int) * (W : Int) ≤ 1024 := by rw [hrw0]; omega
                  have hsm1 : 0 ≤ (r : Int) * (W : Int) + cs.getD r 0 := by rw [hAt]; omega
                  have hsm2 : (r : Int) * (W : Int) + cs.getD r 0 ≤ 1024 := by rw [hAt]; omega
                  have g1 : decide (((at_ W cs r : Nat) : Int) < 0) = false := by simp
                  have g2 : decide (N ≤ at_ W cs r) = false := by simp; omega
                  have hfar := putK_far (f := fun j => L.getD (at_ W cs j) 0 + dd) hcs L hgo r (Nat.le_refl r)
                  obtain ⟨pw, pf⟩ := own_cell hrow (j := at_ W cs r) (by rw [putK_len, hLl]; exact ha)
                  rw [hfar] at pw
                  obtain ⟨hb1', hb2'⟩ := hbd' _ ha
                  have hput : (putK W cs (fun j => L.getD (at_ W cs j) 0 + dd) r L).set (at_ W cs r) (L.getD (at_ W cs r) 0 + dd) = putK W cs (fun j => L.getD (at_ W cs j) 0 + dd) (r + 1) L := rfl
                  have hrow' := own_put (own_keep hrow (w' := wv) rfl) (at_ W cs r) (L.getD (at_ W cs r) 0 + dd)
                  have HPUT := Lib.hid hput
                  clear hput hrow' hfar hrw0
                  generalize hyy : L.getD (at_ W cs r) 0 = y at *
                  generalize hAA : at_ W cs r = A at *
                  generalize hcc : cs.getD r 0 = cr at *
                  have HAt := Lib.hid hAt
                  clear hAt hyy hAA hcc
                  go_wp2_with fail
                  refine wp_region_after (by kernel_rfl) (by kernel_rfl) ?_
                  repeat (go_big_quiet_step (fail))
                  refine wpQuiet_nil ?_
                  rintro _ ⟨xx, rfl⟩
                  obtain ⟨w5, hb5⟩ := xx
                  try dsimp only
                  rw [HAt.out]
                  have d1' := ((bcell hb5).1 _ _ l2').trans d1
                  have pw' := ((bcell hb5).1 _ _ l3').trans pw
                  have pf' := ((bcell hb5).2 _ _ l3').trans pf
                  have hs5 := hb5.size
                  have l2'' : bu < w5.heap.size := by omega
                  have l3'' : g < w5.heap.size := by omega
                  go_wp2_with fail
                  refine wp_region_after_tail 10 (by kernel_rfl) (by kernel_rfl) ?_
                  simp only [List.take_succ_cons, List.take_zero, List.drop_succ_cons, List.drop_zero]
                  repeat (go_big_quiet_step (fail))
                  refine wpQuiet_nil ?_
                  rintro _ ⟨xx, rfl⟩
                  obtain ⟨w6, hb6⟩ := xx
                  try dsimp only
                  have pw6 := ((bcell hb6).1 _ _ l3'').trans pw'
                  have pf6 := ((bcell hb6).2 _ _ l3'').trans pf'
                  have hb6' : Ext wv w6 := Ext.trans' hb5 hb6
                  go_wp2
                  go_roundw
                  case rel => exact ⟨r + 1, by omega, by go_num, by rw [← HPUT.out]; exact own_put (own_keep hrow (hb6'.block g l3')) _ _, mod_put (hM.trans (hb6'.mod _)) _⟩
                  case measure => simp [intOf]; omega
                · go_wp2_with fail
                  have hrR : r = R := by omega
                  rw [hrR] at hrow
                  go_roundw
                  case rel =>
                    have hMf := hM4.trans hM
                    have hRf := hrow
                    rw [← HN.out] at hRf
                    have k1 : k + 1 ≤ 60 := hg2
                    have k2 : k + 1 ≤ us.length := hg1
                    clear hrow HN HR HW HP QA QW CS B1 HV HF JC hbd' hM hM4 hMx hkb hdb hcs
                    exact ⟨k + 1, k1, k2, by go_num, hRf, hMf⟩
                  case measure => simp [intOf]; omega
          · have hfe := fus_end us (i := 0) (j := 60) (k := k) (by omega) (by omega) (.inr ⟨hk60, hkl⟩) hgo
            have hSr := hSA.keep (hM.block s (by have := hSA.lts; omega) (fun h => hgs.1 h.symm)) (hM.block b (by have := hSA.g.ltb; omega) (fun h => hgs.2.1 h.symm)) (hM.block c (by have := hSA.g.ltc; omega) (fun h => hgs.2.2 h.symm))
            rw [← hfe] at hSr
            have HSR := Lib.hid hSr
            have hEw : Ext w wr := Below.trans hEA (hM.below (B := w.heap.size) (by omega) (fun i hi => by have := hE2.size; omega))
            clear hfe hSr
            go_wp2_with fail
            all_goals
              refine Calls.mono (SCells_c s b c C LV R W _ _ (HSR.out.ext ?hx)) ?_
              case hx => (repeat' (first | exact Ext.refl _ | assumption | apply Ext.allocR | apply Ext.drewR | apply Ext.drewNR | (refine Ext.trans' ?_ (by assumption))))
              rintro e w7 ⟨v7, rfl, ho7, hn7, hx7⟩
              have hlen : (feed C LV R W (fus us 0 k) (zs (N))).length = N := by have := hrow.1; simpa [ints] using this
              have hx7' : Ext wr w7 := by (repeat' (first | exact Ext.refl _ | assumption | apply Ext.allocR | apply Ext.drewR | apply Ext.drewNR | (refine Ext.trans' ?_ (by assumption))))
              have hrow7 := own_keep hrow (hx7'.block g l3)
              have hi7 : IntsAt w7 v7 _ := IntsAt.of_row ho7
              have hj7 := IntsAt.of_row hrow7
              go_wp2_with fail
              refine Calls.mono (Same_c _ _ _ _ _ (hi7.ext ?hx) (hj7.ext ?hy) (by omega) (by omega)) ?_
              case hx => (repeat' (first | exact Ext.refl _ | assumption | apply Ext.allocR | apply Ext.drewR | apply Ext.drewNR | (refine Ext.trans' ?_ (by assumption))))
              case hy => (repeat' (first | exact Ext.refl _ | assumption | apply Ext.allocR | apply Ext.drewR | apply Ext.drewNR | (refine Ext.trans' ?_ (by assumption))))
              rintro e w8 ⟨rfl, hx8⟩
              rw [decide_eq_true rfl]
              go_wp2
              go_ret
              exact ⟨rfl, by (repeat' (first | exact Ext.refl _ | assumption | apply Ext.allocR | apply Ext.drewR | apply Ext.drewNR | (refine Ext.trans' ?_ (by assumption))))⟩
end Go.Proofs.Ythancaehlijaoaa
