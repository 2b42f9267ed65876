/- gaugerlaw10.SketchLoads, walked. -/
import Derived.Test.YthancaehlijaoaaBoxes
import Derived.Test.YthancaehlijaoaaSums
import Derived.Test.YthancaehlijaoaaLoad
import Derived.Test.YthancaehlijaoaaAppl
namespace Go.Proofs.Ythancaehlijaoaa
set_option linter.unusedVariables false
open Go.RowKit

set_option maxRecDepth 20000 in
set_option maxHeartbeats 8000000 in
theorem LoadsL_c (x : Cfg) (hx : x.Raw) (lv : Int) (hlv : I64 lv) (us : List (Int × Int)) (hus : UpsOk us) (v : Value) (p : Option Addr) (n cap : Nat) (more : List Int) (w : World) (hv : UpsAt w v us) (hul : us.length ≤ 140737488355328) (hm : SlArg w p n cap more) (hn : n ≤ 281474976710656) :
    Calls Try.prog 6 #[.agg #[.int .i64 x.bits, .int .i64 x.rows, .int .i64 x.width, .int .i64 x.mode, .int .u64 x.seed, .int .i64 lv, v], .slice p n cap] w fun e w' => e = .returned (.bool true) ∧ Ext w w' := by
  obtain ⟨vp, vc, rfl⟩ := hv.sl
  have HV := Lib.hid hv
  have HM := Lib.hid hm
  clear hv hm
  go_enter Try.func6, Try.ntmps6
  go_wp2_with fail
  refine (shown_c _).mono ?_
  rintro e w1 ⟨rfl, hb1⟩
  have hE1 : Ext w w1 := by (repeat' (first | exact Ext.refl _ | assumption | apply Ext.allocR | apply Ext.drewR | apply Ext.drewNR | (refine Ext.trans' ?_ (by assumption))))
  have hP1 : PlayAt w1 w.heap.size x lv (.slice vp us.length vc) := (PlayAt.box x lv _ 27 rfl).ext hb1
  clear hb1
  have d0 := hP1.c.c0
  have d1 := hP1.c.c1
  have d2 := hP1.c.c2
  have d3 := hP1.c.c3
  have d4 := hP1.c.c4
  have d5 := hP1.c5
  have d6 := hP1.c6
  have dl := hP1.c.lt
  go_wp2_with fail
  refine Calls.mono (fed_c x hx 1 (by decide) (by decide) lv hlv us hus _ 0 60 (by omega) (by omega) _ ((UpsAt.ext HV.out hE1).ext ?hx) hul) ?_
  case hx => (repeat' (first | exact Ext.refl _ | assumption | apply Ext.allocR | apply Ext.drewR | apply Ext.drewNR | (refine Ext.trans' ?_ (by assumption))))
  rintro e w2 ⟨s, b, c, rfl, hS, hs, hb, hc, hx2⟩
  have hok := fcfg_ok x hx.s (m := 1) (by decide) (by decide)
  obtain ⟨lb1, lb2⟩ := flv_bd x lv 1
  have hCm : (fcfg x 1).mode = 1 := rfl
  generalize fcfg x 1 = C at *
  generalize flv x lv = LV at *
  generalize fR x = R at *
  generalize fW x = W at *
  have HCM := Lib.hid hCm
  clear hCm
  have hE2 : Ext w w2 := by (repeat' (first | exact Ext.refl _ | assumption | apply Ext.allocR | apply Ext.drewR | apply Ext.drewNR | (refine Ext.trans' ?_ (by assumption))))
  have hlt1 := hS.lts
  have hlt2 := hS.g.ltb
  have hlt3 := hS.g.ltc
  have HS := Lib.hid hS
  have hsz1 := hE1.size
  clear hx2 hP1 d0 d1 d2 d3 d4 d5 d6 dl hS
  go_wp2_with fail
  refine Calls.mono (SNew_c C hok LV lb1 lb2 R W HS.out.hr HS.out.hw _) ?_
  rintro e w3 ⟨s2, b2, c2, rfl, hT, hs2, hb2, hc2, hx3⟩
  have hE3 : Ext w2 w3 := by (repeat' (first | exact Ext.refl _ | assumption | apply Ext.allocR | apply Ext.drewR | apply Ext.drewNR | (refine Ext.trans' ?_ (by assumption))))
  simp only [size_alloc] at hs2 hb2 hc2
  have hS3 := HS.out.ext hE3
  have hlt4 := hT.lts
  have hlt5 := hT.g.ltb
  have hlt6 := hT.g.ltc
  have hsz3 := hE3.size
  have HS3 := Lib.hid hS3
  have HT := Lib.hid hT
  have hN1 : 1 ≤ R * W := Nat.mul_pos hS3.g.r1 hS3.g.w1
  have hN2 : R * W ≤ 1024 := Nat.le_trans (Nat.mul_le_mul hS3.g.r2 hS3.g.w2) (by decide)
  have hkb := keys_bd C hok LV lb1
  have hlA : (feed C LV R W (fus us 0 60) (zs (R * W))).length = R * W := by rw [feed_len, zs_len]
  have hfA := feed_fit C LV R W (fus us 0 60) (Nat.le_trans (fus_len us 0 60) (by decide))
  generalize feed C LV R W (fus us 0 60) (zs (R * W)) = LA at *
  generalize zs (R * W) = LZ at *
  have HLA := Lib.hid hlA
  have HFA := Lib.hid hfA
  have hEw3 := hE2.trans' hE3
  clear hx3 hS3 hT hlA hfA hE2 HS hE3
  go_wp2_with fail
  refine Calls.mono (SCells_c s b c C LV R W _ _ (HS3.out.ext ?hx)) ?_
  case hx => (repeat' (first | exact Ext.refl _ | assumption | apply Ext.allocR | apply Ext.drewR | apply Ext.drewNR | (refine Ext.trans' ?_ (by assumption))))
  rintro e w4 ⟨v4, rfl, ho4, _, hx4⟩
  have hE4 : Ext w3 w4 := by (repeat' (first | exact Ext.refl _ | assumption | apply Ext.allocR | apply Ext.drewR | apply Ext.drewNR | (refine Ext.trans' ?_ (by assumption))))
  have hn4 := own_ne ho4 (c := c) (by first | omega | (simp only [size_alloc]; omega))
  have hn4' := own_ne ho4 (c := c2) (by first | omega | (simp only [size_alloc]; omega))
  have hi4 := IntsAt.of_row ho4
  obtain ⟨vg, vo, vcap, rfl, hgl, hgc⟩ := hi4.slice (by rw [HLA.out]; omega)
  rw [HLA.out] at hi4 hn4 hn4' hgc ⊢
  have hvc : vg ≠ c := hn4 _ _ _ _ rfl
  have hvc2 : vg ≠ c2 := hn4' _ _ _ _ rfl
  have HI4 := Lib.hid hi4
  have HN4 := Lib.hid hn4
  have HN4' := Lib.hid hn4'
  have hcap : R * W ≤ vcap := by
    obtain ⟨p', c', hh⟩ := own_len ho4
    have h2 := ho4.2.resolve_left (fun h => by cases h.1)
    obtain ⟨g', cap', cur, hv', _, _, hc', _⟩ := h2
    have := (Value.slice.inj hv').2.2
    rw [HLA.out] at hc'
    omega
  have hsz4 := hE4.size
  clear hi4 hn4 hn4' hx4 ho4 hgc
  go_wp2_with fail
  refine Calls.mono (Load_yes s2 b2 c2 C LV R W LZ LA _ _ ((HT.out.ext hE4).ext ?hx) (HI4.out.ext ?hy) HFA.out HLA.out HN4'.out) ?_
  case hx => (repeat' (first | exact Ext.refl _ | assumption | apply Ext.allocR | apply Ext.drewR | apply Ext.drewNR | (refine Ext.trans' ?_ (by assumption))))
  case hy => (repeat' (first | exact Ext.refl _ | assumption | apply Ext.allocR | apply Ext.drewR | apply Ext.drewNR | (refine Ext.trans' ?_ (by assumption))))
  rintro e w5 ⟨rfl, hT5, hM5⟩
  have hsz5 := hM5.size
  have hS5 := (HS3.out.ext hE4).mod hM5 (by omega) (by omega) (by omega)
  have hI5 := HI4.out.mod hM5 HN4'.out
  have hEw5 : Ext w w5 := Below.trans (hEw3.trans' hE4) (hM5.below (B := w.heap.size) (by omega) (fun i hi => by omega))
  have HT5 := Lib.hid hT5
  have HS5 := Lib.hid hS5
  have HI5 := Lib.hid hI5
  clear hT5 hS5 hI5 hM5 hEw3 hE4 HS3 HI4 HN4 HN4' HT
  go_wp2_with fail
  refine Calls.mono (SCells_c s2 b2 c2 C LV R W _ _ (HT5.out.ext ?hx)) ?_
  case hx => (repeat' (first | exact Ext.refl _ | assumption | apply Ext.allocR | apply Ext.drewR | apply Ext.drewNR | (refine Ext.trans' ?_ (by assumption))))
  rintro e w6 ⟨v6, rfl, ho6, _, hx6⟩
  have hE6 : Ext w5 w6 := by (repeat' (first | exact Ext.refl _ | assumption | apply Ext.allocR | apply Ext.drewR | apply Ext.drewNR | (refine Ext.trans' ?_ (by assumption))))
  have HI6 := Lib.hid (IntsAt.of_row ho6)
  clear ho6 hx6
  go_wp2_with fail
  refine Calls.mono (Same_c _ _ _ _ _ (HI6.out.ext ?hx) ((HI5.out.ext hE6).ext ?hy) (by rw [HLA.out]; omega) (by rw [HLA.out]; omega)) ?_
  case hx => (repeat' (first | exact Ext.refl _ | assumption | apply Ext.allocR | apply Ext.drewR | apply Ext.drewNR | (refine Ext.trans' ?_ (by assumption))))
  case hy => (repeat' (first | exact Ext.refl _ | assumption | apply Ext.allocR | apply Ext.drewR | apply Ext.drewNR | (refine Ext.trans' ?_ (by assumption))))
  rintro e w7 ⟨rfl, hx7⟩
  have hE7 : Ext w5 w7 := hE6.trans' (by (repeat' (first | exact Ext.refl _ | assumption | apply Ext.allocR | apply Ext.drewR | apply Ext.drewNR | (refine Ext.trans' ?_ (by assumption)))))
  rw [decide_eq_true rfl]
  clear hx7 hE6 HI6
  go_wp2_with fail
  refine Calls.mono (Point_c s b c C LV R W LA 0 _ ((HS5.out.ext hE7).ext ?hx) (by decide) (by omega)) ?_
  case hx => (repeat' (first | exact Ext.refl _ | assumption | apply Ext.allocR | apply Ext.drewR | apply Ext.drewNR | (refine Ext.trans' ?_ (by assumption))))
  rintro e w8 ⟨a, rfl, hp1, hx8⟩
  have hE8 : Ext w5 w8 := hE7.trans' (by (repeat' (first | exact Ext.refl _ | assumption | apply Ext.allocR | apply Ext.drewR | apply Ext.drewNR | (refine Ext.trans' ?_ (by assumption)))))
  clear hx8 hE7
  have HP1 := Lib.hid hp1
  clear hp1
  go_wp2_with fail
  refine Calls.mono (Point_c s2 b2 c2 C LV R W LA 0 _ ((HT5.out.ext hE8).ext ?hx) (by decide) (by omega)) ?_
  case hx => (repeat' (first | exact Ext.refl _ | assumption | apply Ext.allocR | apply Ext.drewR | apply Ext.drewNR | (refine Ext.trans' ?_ (by assumption))))
  rintro e w9 ⟨a', rfl, hp2, hx9⟩
  obtain rfl := kth_unique HP1.out hp2
  have hE9 : Ext w5 w9 := hE8.trans' (by (repeat' (first | exact Ext.refl _ | assumption | apply Ext.allocR | apply Ext.drewR | apply Ext.drewNR | (refine Ext.trans' ?_ (by assumption)))))
  have hS9 := HS5.out.ext hE9
  have hI9 := HI5.out.ext hE9
  have hEw9 := hEw5.trans' hE9
  have hsz9 := hE9.size
  clear hx9 hE8 hp2 HP1 HT5 HS5 HI5 hE9 hEw5
  obtain ⟨vg', vo', vcap', hh, hgl9, hgc9⟩ := hI9.slice (by rw [HLA.out]; omega)
  rw [HLA.out] at hh hgc9
  cases hh
  have HS9 := Lib.hid hS9
  have HGC := Lib.hid hgc9
  have HI9 := Lib.hid hI9
  clear hS9 hI9 hgc9
  have hcs9 : c < w9.heap.size := by omega
  go_upto_region 11 with (fail)
  go_cut [18] (fun s18 wx => s18 = .bool (decide (n = 0)) ∧ SAt wx s b c C LV R W LA ∧ Mod (fun k => k = c) w9 wx)
  case first =>
   obtain ⟨hmn, hmc, hmd⟩ := HM.out
   rcases hmd with ⟨hn0, hpn⟩ | ⟨mg, mo, rfl, hml, hmcell⟩
   ·
    obtain rfl : more = [] := List.length_eq_zero_iff.1 (by omega)
    subst hn0
    clear hmn hmc
    refine pi_start (fun _ => True) [10] (by kernel_rfl) ?_
    refine pi_t 0 rfl (by kernel_rfl) (by kernel_rfl) (fun _ _ _ _ h => h) (fun K hK => ?_)
    go_big_quiet_op
    refine hK _ ?_
    clear hK K
    refine pi_t 2 rfl (by kernel_rfl) (by kernel_rfl) (fun _ _ _ _ h => h) (fun K hK => ?_)
    go_big_quiet_op
    refine hK _ ?_
    clear hK K
    refine pi_t 4 rfl (by kernel_rfl) (by kernel_rfl) (fun _ _ _ _ h => h) (fun K hK => ?_)
    go_big_quiet_op
    refine hK _ ?_
    clear hK K
    refine pi_t 5 rfl (by kernel_rfl) (by kernel_rfl) (fun _ _ _ _ h => h) (fun K hK => ?_)
    go_big_quiet_op
    refine hK _ ?_
    clear hK K
    refine pi_t 6 rfl (by kernel_rfl) (by kernel_rfl) (fun _ _ _ _ h => h) (fun K hK => ?_)
    go_big_quiet_op
    refine hK _ ?_
    clear hK K
    refine pi_t 7 rfl (by kernel_rfl) (by kernel_rfl) (fun _ _ _ _ h => h) (fun K hK => ?_)
    go_big_quiet_op
    refine hK _ ?_
    clear hK K
    refine pi_t 8 rfl (by kernel_rfl) (by kernel_rfl) (fun _ _ _ _ h => h) (fun K hK => ?_)
    go_big_quiet_op
    refine hK _ ?_
    clear hK K
    refine pi_l 1 rfl (by kernel_rfl) (fun K hK => ?_)
    go_wp2
    refine hK _ _ (fun _ _ => trivial) ?_
    clear hK K
    refine pi_l 3 rfl (by kernel_rfl) (fun K hK => ?_)
    have ho0 : (w9.alloc (.cells #[] 2)).drew.ownsRow w9.heap.size 2 1 (.slice (some ⟨w9.heap.size, 0, none⟩) 0 0) ([] : List Int).length (ints []) := own_drew ⟨rfl, .inr ⟨w9.heap.size, 0, #[], rfl, Nat.le_refl _, heap_at _ _ rfl, Nat.le_refl _, Nat.zero_le _, rfl, rfl⟩⟩
    go_wp2_with (at_builtin; refine wpList_appl _ LA [] _ w9.heap.size 2 ho0 32 rfl _ _ rfl info_i64 Try.underlying32 rfl vg vo (R * W) vcap rfl HLA.out.symm ?a1 ?a2 ?a3 ?_)
    case a1 => intro k hk; exact ((bcell (Ext.drewR (Ext.alloc' w9 _))).1 vg (vo + k) hgl9).trans (HGC.out k hk)
    case a2 => simp only [List.length_nil]; omega
    case a3 => show w9.heap.size ≤ (w9.alloc _).heap.size; rw [size_alloc]; exact Nat.le_succ _
    intro v1 W1 ho1 hgr hd
    have hEW : Ext w9 W1 := ext_grown0 (Ext.drewR (Ext.alloc' _ _)) hgr (by intro k hk; cases hk; exact Nat.le_refl _)
    clear hgr ho0
    go_wp2
    refine hK _ _ (fun _ _ => trivial) ?_
    clear hK K
    refine pi_l 9 rfl (by kernel_rfl) (fun K hK => ?_)
    obtain ⟨i0, hi0, _, _, _⟩ := info_parts info_i64
    go_wp2_with (at_builtin; refine wpList_append_zero rfl _ _ 32 rfl w9.heap.size 2 i0 1 Try.underlying32 hi0 v1 _ _ rfl ho1 p cap rfl ?_)
    refine hK _ _ (fun _ _ => trivial) ?_
    clear hK K
    refine pi_l 10 rfl (by kernel_rfl) (fun K hK => ?_)
    go_wp2_with (go_at_call 28; refine (Load_yes s b c C LV R W LA LA v1 W1 (HS9.out.ext hEW) (IntsAt.of_row ho1) HFA.out HLA.out (own_ne ho1 hcs9)).mono ?_; rintro e wy ⟨rfl, hSy, hMy⟩)
    refine hK _ _ (by simp) ?_
    clear hK K
    refine pi_t 11 rfl (by kernel_rfl) (by kernel_rfl) (fun _ _ _ _ h => h) (fun K hK => ?_)
    go_big_quiet_op
    refine hK _ ?_
    clear hK K
    refine pi_end (by kernel_rfl) ?_
    go_wp2_with fail
    go_meet
    exact ⟨rfl, hSy, (hEW.mod _).trans hMy⟩
   ·
    by_cases hn0 : n = 0
    · obtain rfl : more = [] := List.length_eq_zero_iff.1 (by omega)
      subst hn0
      clear hmn hmc hmcell
      refine pi_start (fun _ => True) [10] (by kernel_rfl) ?_
      refine pi_t 0 rfl (by kernel_rfl) (by kernel_rfl) (fun _ _ _ _ h => h) (fun K hK => ?_)
      go_big_quiet_op
      refine hK _ ?_
      clear hK K
      refine pi_t 2 rfl (by kernel_rfl) (by kernel_rfl) (fun _ _ _ _ h => h) (fun K hK => ?_)
      go_big_quiet_op
      refine hK _ ?_
      clear hK K
      refine pi_t 4 rfl (by kernel_rfl) (by kernel_rfl) (fun _ _ _ _ h => h) (fun K hK => ?_)
      go_big_quiet_op
      refine hK _ ?_
      clear hK K
      refine pi_t 5 rfl (by kernel_rfl) (by kernel_rfl) (fun _ _ _ _ h => h) (fun K hK => ?_)
      go_big_quiet_op
      refine hK _ ?_
      clear hK K
      refine pi_t 6 rfl (by kernel_rfl) (by kernel_rfl) (fun _ _ _ _ h => h) (fun K hK => ?_)
      go_big_quiet_op
      refine hK _ ?_
      clear hK K
      refine pi_t 7 rfl (by kernel_rfl) (by kernel_rfl) (fun _ _ _ _ h => h) (fun K hK => ?_)
      go_big_quiet_op
      refine hK _ ?_
      clear hK K
      refine pi_t 8 rfl (by kernel_rfl) (by kernel_rfl) (fun _ _ _ _ h => h) (fun K hK => ?_)
      go_big_quiet_op
      refine hK _ ?_
      clear hK K
      refine pi_l 1 rfl (by kernel_rfl) (fun K hK => ?_)
      go_wp2
      refine hK _ _ (fun _ _ => trivial) ?_
      clear hK K
      refine pi_l 3 rfl (by kernel_rfl) (fun K hK => ?_)
      have ho0 : (w9.alloc (.cells #[] 2)).drew.ownsRow w9.heap.size 2 1 (.slice (some ⟨w9.heap.size, 0, none⟩) 0 0) ([] : List Int).length (ints []) := own_drew ⟨rfl, .inr ⟨w9.heap.size, 0, #[], rfl, Nat.le_refl _, heap_at _ _ rfl, Nat.le_refl _, Nat.zero_le _, rfl, rfl⟩⟩
      go_wp2_with (at_builtin; refine wpList_appl _ LA [] _ w9.heap.size 2 ho0 32 rfl _ _ rfl info_i64 Try.underlying32 rfl vg vo (R * W) vcap rfl HLA.out.symm ?a1 ?a2 ?a3 ?_)
      case a1 => intro k hk; exact ((bcell (Ext.drewR (Ext.alloc' w9 _))).1 vg (vo + k) hgl9).trans (HGC.out k hk)
      case a2 => simp only [List.length_nil]; omega
      case a3 => show w9.heap.size ≤ (w9.alloc _).heap.size; rw [size_alloc]; exact Nat.le_succ _
      intro v1 W1 ho1 hgr hd
      have hEW : Ext w9 W1 := ext_grown0 (Ext.drewR (Ext.alloc' _ _)) hgr (by intro k hk; cases hk; exact Nat.le_refl _)
      clear hgr ho0
      go_wp2
      refine hK _ _ (fun _ _ => trivial) ?_
      clear hK K
      refine pi_l 9 rfl (by kernel_rfl) (fun K hK => ?_)
      obtain ⟨i0, hi0, _, _, _⟩ := info_parts info_i64
      go_wp2_with (at_builtin; refine wpList_append_zero rfl _ _ 32 rfl w9.heap.size 2 i0 1 Try.underlying32 hi0 v1 _ _ rfl ho1 (some ⟨mg, mo, none⟩) cap rfl ?_)
      refine hK _ _ (fun _ _ => trivial) ?_
      clear hK K
      refine pi_l 10 rfl (by kernel_rfl) (fun K hK => ?_)
      go_wp2_with (go_at_call 28; refine (Load_yes s b c C LV R W LA LA v1 W1 (HS9.out.ext hEW) (IntsAt.of_row ho1) HFA.out HLA.out (own_ne ho1 hcs9)).mono ?_; rintro e wy ⟨rfl, hSy, hMy⟩)
      refine hK _ _ (by simp) ?_
      clear hK K
      refine pi_t 11 rfl (by kernel_rfl) (by kernel_rfl) (fun _ _ _ _ h => h) (fun K hK => ?_)
      go_big_quiet_op
      refine hK _ ?_
      clear hK K
      refine pi_end (by kernel_rfl) ?_
      go_wp2_with fail
      go_meet
      exact ⟨rfl, hSy, (hEW.mod _).trans hMy⟩
    ·
      obtain ⟨kk, hkk⟩ : ∃ kk : Nat, min (n : Int) 20 = kk := ⟨min n 20, by omega⟩
      have hk1 : 1 ≤ kk := by omega
      have hk20 : kk ≤ 20 := by omega
      have hkn : kk ≤ n := by omega
      have hkc : kk ≤ cap := by omega
      have HKC := Lib.hid hmcell
      clear hmcell hmc
      have hls : (n ≤ 20 ∧ kk = n) ∨ (20 < n ∧ kk = 20) := by omega
      have hlt : kk = (more.take kk).length := by rw [List.length_take]; omega
      have hlg : ∀ k, k < kk → (more.take kk).getD k 0 = more.getD k 0 := fun k hk => by simp [List.getElem?_take_of_lt hk]
      have HLG := Lib.hid hlg
      have HLT := Lib.hid hlt
      generalize more.take kk = m2 at *
      clear hkk hlg hlt hmn
      rcases hls with ⟨hle, rfl⟩ | ⟨hle, rfl⟩
      · have hle' : (kk : Int) ≤ 20 := by omega
        refine pi_start (fun _ => True) [10] (by kernel_rfl) ?_
        refine pi_t 0 rfl (by kernel_rfl) (by kernel_rfl) (fun _ _ _ _ h => h) (fun K hK => ?_)
        go_big_quiet_op
        refine hK _ ?_
        clear hK K
        refine pi_t 2 rfl (by kernel_rfl) (by kernel_rfl) (fun _ _ _ _ h => h) (fun K hK => ?_)
        go_big_quiet_op
        refine hK _ ?_
        clear hK K
        refine pi_t 4 rfl (by kernel_rfl) (by kernel_rfl) (fun _ _ _ _ h => h) (fun K hK => ?_)
        go_big_quiet_op
        refine hK _ ?_
        clear hK K
        refine pi_t 5 rfl (by kernel_rfl) (by kernel_rfl) (fun _ _ _ _ h => h) (fun K hK => ?_)
        go_big_quiet_op
        refine hK _ ?_
        clear hK K
        refine pi_t 6 rfl (by kernel_rfl) (by kernel_rfl) (fun _ _ _ _ h => h) (fun K hK => ?_)
        go_big_quiet_op
        refine hK _ ?_
        clear hK K
        refine pi_t 7 rfl (by kernel_rfl) (by kernel_rfl) (fun _ _ _ _ h => h) (fun K hK => ?_)
        go_big_quiet_op
        refine hK _ ?_
        clear hK K
        refine pi_t 8 rfl (by kernel_rfl) (by kernel_rfl) (fun _ _ _ _ h => h) (fun K hK => ?_)
        go_big_quiet_op
        refine hK _ ?_
        clear hK K
        refine pi_l 1 rfl (by kernel_rfl) (fun K hK => ?_)
        go_wp2
        refine hK _ _ (fun _ _ => trivial) ?_
        clear hK K
        refine pi_l 3 rfl (by kernel_rfl) (fun K hK => ?_)
        have ho0 : (w9.alloc (.cells #[] 2)).drew.ownsRow w9.heap.size 2 1 (.slice (some ⟨w9.heap.size, 0, none⟩) 0 0) ([] : List Int).length (ints []) := own_drew ⟨rfl, .inr ⟨w9.heap.size, 0, #[], rfl, Nat.le_refl _, heap_at _ _ rfl, Nat.le_refl _, Nat.zero_le _, rfl, rfl⟩⟩
        go_wp2_with (at_builtin; refine wpList_appl _ LA [] _ w9.heap.size 2 ho0 32 rfl _ _ rfl info_i64 Try.underlying32 rfl vg vo (R * W) vcap rfl HLA.out.symm ?a1 ?a2 ?a3 ?_)
        case a1 => intro k hk; exact ((bcell (Ext.drewR (Ext.alloc' w9 _))).1 vg (vo + k) hgl9).trans (HGC.out k hk)
        case a2 => simp only [List.length_nil]; omega
        case a3 => show w9.heap.size ≤ (w9.alloc _).heap.size; rw [size_alloc]; exact Nat.le_succ _
        intro v1 W1 ho1 hgr hd
        have hEW : Ext w9 W1 := ext_grown0 (Ext.drewR (Ext.alloc' _ _)) hgr (by intro k hk; cases hk; exact Nat.le_refl _)
        clear hgr ho0
        go_wp2
        refine hK _ _ (fun _ _ => trivial) ?_
        clear hK K
        refine pi_l 9 rfl (by kernel_rfl) (fun K hK => ?_)
        go_wp2_with (at_builtin; refine wpList_appl _ m2 LA v1 w9.heap.size 2 ho1 32 rfl _ _ rfl info_i64 Try.underlying32 rfl mg mo kk cap rfl HLT.out ?b1 ?b2 hEW.size ?_)
        case b1 => intro k hk; rw [HLG.out k hk]; exact ((bcell (hEw9.trans' hEW)).1 mg (mo + k) hml).trans (HKC.out k (by omega))
        case b2 => rw [HLA.out]; omega
        intro v2 W2 ho2 hgr2 hd2
        have hEW2 : Ext w9 W2 := ext_grown0 hEW hgr2 (fun k hk => own_blk ho1 hk)
        obtain ⟨p2, c2', rfl⟩ := own_len ho2
        have hne2 : LA.length + m2.length ≠ R * W := by rw [HLA.out, ← HLT.out]; omega
        generalize LA.length + m2.length = N2 at *
        clear hgr2 hd2 ho2 ho1 hEW
        go_wp2
        refine hK _ _ (fun _ _ => trivial) ?_
        clear hK K
        refine pi_l 10 rfl (by kernel_rfl) (fun K hK => ?_)
        go_wp2_with (go_at_call 28; refine (Load_no s b c C LV R W LA p2 N2 c2' W2 (HS9.out.ext hEW2) hne2).mono ?_; rintro e wy ⟨rfl, hxy⟩)
        refine hK _ _ (by simp) ?_
        clear hK K
        refine pi_t 11 rfl (by kernel_rfl) (by kernel_rfl) (fun _ _ _ _ h => h) (fun K hK => ?_)
        go_big_quiet_op
        refine hK _ ?_
        clear hK K
        refine pi_end (by kernel_rfl) ?_
        have hEy : Ext w9 wy := hEW2.trans' hxy
        have hSy := HS9.out.ext hEy
        go_wp2_with fail
        go_meet
        exact ⟨by rw [decide_eq_false (by omega)], hSy, hEy.mod _⟩
      · have hle' : ¬ (n : Int) ≤ 20 := by omega
        refine pi_start (fun _ => True) [10] (by kernel_rfl) ?_
        refine pi_t 0 rfl (by kernel_rfl) (by kernel_rfl) (fun _ _ _ _ h => h) (fun K hK => ?_)
        go_big_quiet_op
        refine hK _ ?_
        clear hK K
        refine pi_t 2 rfl (by kernel_rfl) (by kernel_rfl) (fun _ _ _ _ h => h) (fun K hK => ?_)
        go_big_quiet_op
        refine hK _ ?_
        clear hK K
        refine pi_t 4 rfl (by kernel_rfl) (by kernel_rfl) (fun _ _ _ _ h => h) (fun K hK => ?_)
        go_big_quiet_op
        refine hK _ ?_
        clear hK K
        refine pi_t 5 rfl (by kernel_rfl) (by kernel_rfl) (fun _ _ _ _ h => h) (fun K hK => ?_)
        go_big_quiet_op
        refine hK _ ?_
        clear hK K
        refine pi_t 6 rfl (by kernel_rfl) (by kernel_rfl) (fun _ _ _ _ h => h) (fun K hK => ?_)
        go_big_quiet_op
        refine hK _ ?_
        clear hK K
        refine pi_t 7 rfl (by kernel_rfl) (by kernel_rfl) (fun _ _ _ _ h => h) (fun K hK => ?_)
        go_big_quiet_op
        refine hK _ ?_
        clear hK K
        refine pi_t 8 rfl (by kernel_rfl) (by kernel_rfl) (fun _ _ _ _ h => h) (fun K hK => ?_)
        go_big_quiet_op
        refine hK _ ?_
        clear hK K
        refine pi_l 1 rfl (by kernel_rfl) (fun K hK => ?_)
        go_wp2
        refine hK _ _ (fun _ _ => trivial) ?_
        clear hK K
        refine pi_l 3 rfl (by kernel_rfl) (fun K hK => ?_)
        have ho0 : (w9.alloc (.cells #[] 2)).drew.ownsRow w9.heap.size 2 1 (.slice (some ⟨w9.heap.size, 0, none⟩) 0 0) ([] : List Int).length (ints []) := own_drew ⟨rfl, .inr ⟨w9.heap.size, 0, #[], rfl, Nat.le_refl _, heap_at _ _ rfl, Nat.le_refl _, Nat.zero_le _, rfl, rfl⟩⟩
        go_wp2_with (at_builtin; refine wpList_appl _ LA [] _ w9.heap.size 2 ho0 32 rfl _ _ rfl info_i64 Try.underlying32 rfl vg vo (R * W) vcap rfl HLA.out.symm ?a1 ?a2 ?a3 ?_)
        case a1 => intro k hk; exact ((bcell (Ext.drewR (Ext.alloc' w9 _))).1 vg (vo + k) hgl9).trans (HGC.out k hk)
        case a2 => simp only [List.length_nil]; omega
        case a3 => show w9.heap.size ≤ (w9.alloc _).heap.size; rw [size_alloc]; exact Nat.le_succ _
        intro v1 W1 ho1 hgr hd
        have hEW : Ext w9 W1 := ext_grown0 (Ext.drewR (Ext.alloc' _ _)) hgr (by intro k hk; cases hk; exact Nat.le_refl _)
        clear hgr ho0
        go_wp2
        refine hK _ _ (fun _ _ => trivial) ?_
        clear hK K
        refine pi_l 9 rfl (by kernel_rfl) (fun K hK => ?_)
        go_wp2_with (at_builtin; refine wpList_appl _ m2 LA v1 w9.heap.size 2 ho1 32 rfl _ _ rfl info_i64 Try.underlying32 rfl mg mo 20 cap rfl HLT.out ?b1 ?b2 hEW.size ?_)
        case b1 => intro k hk; rw [HLG.out k hk]; exact ((bcell (hEw9.trans' hEW)).1 mg (mo + k) hml).trans (HKC.out k (by omega))
        case b2 => rw [HLA.out]; omega
        intro v2 W2 ho2 hgr2 hd2
        have hEW2 : Ext w9 W2 := ext_grown0 hEW hgr2 (fun k hk => own_blk ho1 hk)
        obtain ⟨p2, c2', rfl⟩ := own_len ho2
        have hne2 : LA.length + m2.length ≠ R * W := by rw [HLA.out, ← HLT.out]; omega
        generalize LA.length + m2.length = N2 at *
        clear hgr2 hd2 ho2 ho1 hEW
        go_wp2
        refine hK _ _ (fun _ _ => trivial) ?_
        clear hK K
        refine pi_l 10 rfl (by kernel_rfl) (fun K hK => ?_)
        go_wp2_with (go_at_call 28; refine (Load_no s b c C LV R W LA p2 N2 c2' W2 (HS9.out.ext hEW2) hne2).mono ?_; rintro e wy ⟨rfl, hxy⟩)
        refine hK _ _ (by simp) ?_
        clear hK K
        refine pi_t 11 rfl (by kernel_rfl) (by kernel_rfl) (fun _ _ _ _ h => h) (fun K hK => ?_)
        go_big_quiet_op
        refine hK _ ?_
        clear hK K
        refine pi_end (by kernel_rfl) ?_
        have hEy : Ext w9 wy := hEW2.trans' hxy
        have hSy := HS9.out.ext hEy
        go_wp2_with fail
        go_meet
        exact ⟨by rw [decide_eq_false (by omega)], hSy, hEy.mod _⟩
  case rest =>
    obtain ⟨rfl, hS12, hM12⟩ := hcut
    have hsz12 := hM12.size
    have hEw12 : Ext w wc := Below.trans hEw9 (hM12.below (B := w.heap.size) (by omega) (fun i hi => by omega))
    have hI12 := HI9.out.mod hM12 (fun g off n cap h => by cases h; exact hvc)
    have HS12 := Lib.hid hS12
    have HI12 := Lib.hid hI12
    obtain ⟨N', hN'⟩ : ∃ N', R * W = N' + 1 := ⟨R * W - 1, by omega⟩
    have hne : N' ≠ R * W := by omega
    have HHN := Lib.hid hN'
    clear hS12 hM12 hI12 HI9 HS9 HGC hgl9 hEw9
    rw [hN'] at hN1 hN2 hcap ⊢
    clear hN'
    have hEwc : Ext w wc := hEw12
    rename World => wz
    go_upto_region 12 with (fail)
    go_cut [19] (fun s19 wx => s19 = .bool false ∧ Ext wz wx)
    case first =>
      by_cases hz : (N' : Int) + 1 ≤ 1
      · have hz' : (0 : Nat) ≠ R * W := by have := HHN.out; omega
        go_wp2_with fail
        refine Calls.mono (Load_no s b c C LV R W LA _ 0 vcap _ (HS12.out.ext ?hx) hz') ?_
        case hx => (repeat' (first | exact Ext.refl _ | assumption | apply Ext.allocR | apply Ext.drewR | apply Ext.drewNR | (refine Ext.trans' ?_ (by assumption))))
        rintro e wy ⟨rfl, hxy⟩
        have hEy : Ext wz wy := by (repeat' (first | exact Ext.refl _ | assumption | apply Ext.allocR | apply Ext.drewR | apply Ext.drewNR | (refine Ext.trans' ?_ (by assumption))))
        go_wp2_with fail
        go_meet
        exact ⟨rfl, hEy⟩
      · go_wp2_with fail
        refine Calls.mono (Load_no s b c C LV R W LA _ N' vcap _ (HS12.out.ext ?hx) hne) ?_
        case hx => (repeat' (first | exact Ext.refl _ | assumption | apply Ext.allocR | apply Ext.drewR | apply Ext.drewNR | (refine Ext.trans' ?_ (by assumption))))
        rintro e wy ⟨rfl, hxy⟩
        have hEy : Ext wz wy := by (repeat' (first | exact Ext.refl _ | assumption | apply Ext.allocR | apply Ext.drewR | apply Ext.drewNR | (refine Ext.trans' ?_ (by assumption))))
        go_wp2_with fail
        go_meet
        exact ⟨rfl, hEy⟩
    case rest =>
      obtain ⟨rfl, hE13⟩ := hcut
      have hS13 := HS12.out.ext hE13
      have hI13 := HI12.out.ext hE13
      rw [HHN.out] at hI13
      have hEwA := hEw12.trans' hE13
      have HS13 := Lib.hid hS13
      have HI13 := Lib.hid hI13
      have hdn : (decide (n = 0) == ((n : Int) == 0)) = true := by by_cases h : n = 0 <;> simp [h]
      clear hS13 hI13 hE13 hEw12 hEwc
      go_wp2_with fail
      refine Calls.mono (SCells_c s b c C LV R W LA _ (HS13.out.ext ?hx)) ?_
      case hx => (repeat' (first | exact Ext.refl _ | assumption | apply Ext.allocR | apply Ext.drewR | apply Ext.drewNR | (refine Ext.trans' ?_ (by assumption))))
      rintro e wa ⟨va, rfl, hoa, _, hxa⟩
      have hEa : Ext w wa := by (repeat' (first | exact Ext.refl _ | assumption | apply Ext.allocR | apply Ext.drewR | apply Ext.drewNR | (refine Ext.trans' ?_ (by assumption))))
      have hEca : Ext wc wa := by (repeat' (first | exact Ext.refl _ | assumption | apply Ext.allocR | apply Ext.drewR | apply Ext.drewNR | (refine Ext.trans' ?_ (by assumption))))
      have HIa := Lib.hid (IntsAt.of_row hoa)
      clear hoa hxa
      go_wp2_with fail
      refine Calls.mono (Same_c _ _ _ _ _ (HIa.out.ext ?hx) ((HI13.out.ext hEca).ext ?hy) (by rw [HLA.out, HHN.out]; omega) (by rw [HLA.out, HHN.out]; omega)) ?_
      case hx => (repeat' (first | exact Ext.refl _ | assumption | apply Ext.allocR | apply Ext.drewR | apply Ext.drewNR | (refine Ext.trans' ?_ (by assumption))))
      case hy => (repeat' (first | exact Ext.refl _ | assumption | apply Ext.allocR | apply Ext.drewR | apply Ext.drewNR | (refine Ext.trans' ?_ (by assumption))))
      rintro e wb ⟨rfl, hxb⟩
      have hEb : Ext w wb := hEa.trans' (by (repeat' (first | exact Ext.refl _ | assumption | apply Ext.allocR | apply Ext.drewR | apply Ext.drewNR | (refine Ext.trans' ?_ (by assumption)))))
      rw [decide_eq_true rfl]
      clear hxb hEa HIa
      go_wp2
      go_ret
      exact ⟨rfl, hEb⟩
end Go.Proofs.Ythancaehlijaoaa
