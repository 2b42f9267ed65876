/- gaugerlaw10.SketchBounds, walked. -/
import Derived.Test.YthancaehlijaoaaHas
import Derived.Test.YthancaehlijaoaaMerge
import Derived.Test.YthancaehlijaoaaBoundLaw
import Derived.Test.YthancaehlijaoaaUps
import Derived.Test.YthancaehlijaoaaAppl
namespace Go.Proofs.Ythancaehlijaoaa
set_option linter.unusedVariables false
open Go.RowKit

theorem plus_fit (C : Cfg) (lv : Int) (R W : Nat) (us vs : List (Int × Int)) (h1 : us.length ≤ 1000) (h2 : vs.length ≤ 1000) : allI (plusL (feed C lv R W us (zs (R * W))) (feed C lv R W vs (zs (R * W)))) := by
  intro x hx
  simp only [plusL, List.mem_map, List.mem_range] at hx
  obtain ⟨k, _, rfl⟩ := hx
  have a := (feed_bnd C lv R W us).getD (by omega) k
  have b := (feed_bnd C lv R W vs).getD (by omega) k
  unfold I64
  constructor <;> omega
theorem own_setc {w : World} {base n size : Nat} {e : TypeId} {v : Value} {xs : List Value} (h : w.ownsRow base e size v n xs) {b : Nat} (hb : b < base) (o : Nat) (u : Value) : (w.setCell ⟨b, o, none⟩ u).ownsRow base e size v n xs := by
  refine ⟨h.1, ?_⟩
  rcases h.2 with h' | ⟨g, cap, cur, hv, hg, hh, hr⟩
  · exact .inl h'
  · exact .inr ⟨g, cap, cur, hv, hg, (setCell_other _ _ (by omega)).trans hh, hr⟩
theorem own_sl {w : World} {base n size : Nat} {e : TypeId} {v : Value} {xs : List Value} (h : w.ownsRow base e size v n xs) : ∃ p c, v = .slice p n c := by
  rcases h.2 with ⟨rfl, rfl⟩ | ⟨g, cap, cur, rfl, _⟩
  · exact ⟨none, 0, rfl⟩
  · exact ⟨_, _, rfl⟩
theorem own_ext {w w' : World} {base n size : Nat} {e : TypeId} {v : Value} {xs : List Value} (h : w.ownsRow base e size v n xs) (hE : Ext w w') : w'.ownsRow base e size v n xs := by
  refine ⟨h.1, ?_⟩
  rcases h.2 with h' | ⟨g, cap, cur, hv, hg, hh, hr⟩
  · exact .inl h'
  · exact .inr ⟨g, cap, cur, hv, hg, hE.keep hh, hr⟩
/-- A world in which what W has is as it was, but for the blocks in S. -/
structure AftS (S : Nat → Prop) (W : World) where
  w : World
  h : Mod S W w
instance (S : Nat → Prop) (W : World) : Nonempty (AftS S W) := ⟨⟨W, Mod.refl _ W⟩⟩
@[go_sem] theorem AftS.cell {S : Nat → Prop} {W : World} (x : AftS S W) {b o : Nat} (h : b < W.heap.size) (hn : ¬ S b) : x.w.cell? ⟨b, o, none⟩ = W.cell? ⟨b, o, none⟩ := mcell x.h h hn o
theorem afs_drew (S : Nat → Prop) (W : World) : ∃ x : AftS S W, W.drew = x.w := ⟨⟨_, Ext.mod _ (Below.drew (Ext.refl W))⟩, rfl⟩
theorem afs_step {S : Nat → Prop} {W w w' : World} (h : ∃ x : AftS S W, w = x.w) (he : Ext w w') : ∃ x : AftS S W, w' = x.w := by
  obtain ⟨x, rfl⟩ := h
  exact ⟨⟨w', x.h.trans (he.mod _)⟩, rfl⟩
theorem mod_grown {S : Nat → Prop} {W w w' : World} {o : Obj} {row : Option Nat} (h : Mod S W w) (hg : (w.alloc o).grownBy w' row) (hr : ∀ i, row = some i → S i) : Mod S W w' := by
  refine ⟨hg.os.trans h.os, hg.tape.trans h.tape, hg.output.trans h.output, Nat.le_trans h.size (Nat.le_trans (by rw [size_alloc]; exact Nat.le_succ _) hg.size), fun k hk hn => ?_⟩
  exact (grown_old hg (Nat.lt_of_lt_of_le hk h.size) (fun e => hn (hr k e.symm))).trans (h.block k hk hn)
theorem afs_grown {S : Nat → Prop} {W w w' : World} {o : Obj} {row : Option Nat} (h : ∃ x : AftS S W, w = x.w) (hg : (w.alloc o).grownBy w' row) (hr : ∀ i, row = some i → S i) : ∃ x : AftS S W, w' = x.w := by
  obtain ⟨x, rfl⟩ := h
  exact ⟨⟨w', mod_grown x.h hg hr⟩, rfl⟩
theorem ups_ok_cut (C : Cfg) (hok : C.Ok) (lv : Int) (h0 : 0 ≤ lv) (us : List (Int × Int)) : UpsOk (cutP C lv us) := by
  intro u hu
  simp only [cutP, List.mem_map] at hu
  obtain ⟨p, _, rfl⟩ := hu
  have hk := cutK_bd C hok lv p.1 h0
  have hd := cutD_bd C.mode p.2
  have hb := keys_bd C hok lv h0
  refine ⟨⟨hk.1, ?_⟩, ?_⟩
  · show cutK C lv p.1 < _; omega
  · show -9223372036854775808 ≤ cutD C.mode p.2 ∧ _; omega
theorem info_upd : ∃ i z, Try.prog.info? 34 = some i ∧ i.zero = some z ∧ i.size = 2 ∧ i.bytes = 16 ∧ z.cells.size = 2 := by
  have h : (Try.prog.info? 34).map (fun i => (i.zero, i.size, i.bytes)) = some (some (.agg #[.int .u64 0, .int .i64 0]), 2, 16) := by kernel_rfl
  match hi : Try.prog.info? 34, h with
  | some i, h =>
    simp only [Option.map_some, Option.some.injEq, Prod.mk.injEq] at h
    exact ⟨i, _, rfl, h.1, h.2.1, h.2.2, rfl⟩
set_option maxRecDepth 20000 in
set_option maxHeartbeats 8000000 in
theorem BoundsL_c (x : Cfg) (hx : x.Raw) (k0 : Int) (hk0 : I64 k0) (key : Int) (hkey : U64 key) (lv : Int) (hlv : I64 lv) (us : List (Int × Int)) (hus : UpsOk us) (v : Value) (w : World) (hv : UpsAt w v us) (hul : us.length ≤ 140737488355328) :
    Calls Try.prog 7 #[.agg #[.int .i64 x.bits, .int .i64 x.rows, .int .i64 x.width, .int .i64 x.mode, .int .u64 x.seed, .int .i64 lv, v], .int .i64 k0, .int .u64 key] w fun e w' => e = .returned (.bool true) ∧ Ext w w' := by
  obtain ⟨vp, vc, rfl⟩ := hv.sl
  have HV := Lib.hid hv
  clear hv
  go_enter Try.func7, Try.ntmps7
  go_wp2_with fail
  refine (shown_c _).mono ?_
  rintro e w1 ⟨rfl, hb1⟩
  have hE1 : Ext w w1 := by (repeat' (first | exact Ext.refl _ | assumption | apply Ext.allocR | apply Ext.drewR | apply Ext.drewNR | (refine Ext.trans' ?_ (by assumption))))
  have hP1 : PlayAt w1 w.heap.size x lv (.slice vp us.length vc) := (PlayAt.box x lv _ 27 rfl).ext hb1
  clear hb1
  obtain ⟨k, hk⟩ : ∃ k : Nat, k0 % 65536 % 61 = k := ⟨(k0 % 65536 % 61).toNat, (Int.toNat_of_nonneg (Int.emod_nonneg _ (by decide))).symm⟩
  have hk60 : k ≤ 60 := by have := Int.emod_lt_of_pos (k0 % 65536) (show (0 : Int) < 61 by decide); omega
  have hka := and16 k0
  have hkn := Int.emod_nonneg k0 (show (65536 : Int) ≠ 0 by decide)
  have HKK := Lib.hid hk
  clear hk
  go_upto_region 2 with (fail)
  go_cut [1] (fun s1 wx => s1 = .int .i64 (k : Int) ∧ wx = w1)
  case first =>
    go_wp2_with fail
    go_meet
    exact ⟨by rw [HKK.out], rfl⟩
  case rest =>
    obtain ⟨rfl, rfl⟩ := hcut
    clear hka hkn
    have hU1 := UpsAt.ext HV.out hE1
    have HU1 := Lib.hid hU1
    have HP1 := Lib.hid hP1
    have hok := fcfg_ok x hx.s (m := 2) (by decide) (by decide)
    obtain ⟨lb1, lb2⟩ := flv_bd x lv 2
    have hCm : (fcfg x 2).mode = 2 := rfl
    have hCL := fcfg_lin x
    have d0 := hP1.c.c0
    have d1 := hP1.c.c1
    have d2 := hP1.c.c2
    have d3 := hP1.c.c3
    have d4 := hP1.c.c4
    have d5 := hP1.c5
    have d6 := hP1.c6
    have dl := hP1.c.lt
    have hlt0 := hP1.c.lt
    clear hU1 hP1
    go_wp2_with fail
    refine Calls.mono (fed_c x hx 2 (by decide) (by decide) lv hlv us hus _ 0 k (by omega) hk60 _ (HU1.out.ext ?hx) hul) ?_
    case hx => (repeat' (first | exact Ext.refl _ | assumption | apply Ext.allocR | apply Ext.drewR | apply Ext.drewNR | (refine Ext.trans' ?_ (by assumption))))
    rintro e w2 ⟨s, b, c, rfl, hS, hs, hb, hc, hx2⟩
    have hE2 : Ext wc w2 := by (repeat' (first | exact Ext.refl _ | assumption | apply Ext.allocR | apply Ext.drewR | apply Ext.drewNR | (refine Ext.trans' ?_ (by assumption))))
    have hP2 := HP1.out.ext hE2
    clear hx2 d0 d1 d2 d3 d4 d5 d6 dl
    generalize hCe : fcfg x 2 = C at *
    generalize hLe : flv x lv = LV at *
    generalize hRe : fR x = R at *
    generalize hWe : fW x = W at *
    have HCE := Lib.hid hCe
    have HLE := Lib.hid hLe
    have HRE := Lib.hid hRe
    have HWE := Lib.hid hWe
    have HCL := Lib.hid hCL
    have HCM := Lib.hid hCm
    clear hCe hLe hRe hWe hCL hCm
    have hCb : CfgAt (w2.alloc (.cells #[.int .i64 C.bits, .int .i64 C.rows, .int .i64 C.width, .int .i64 C.mode, .int .u64 C.seed] 24)) w2.heap.size C := CfgAt.box C _ rfl
    have hEB : Ext w2 (w2.alloc (.cells #[.int .i64 C.bits, .int .i64 C.rows, .int .i64 C.width, .int .i64 C.mode, .int .u64 C.seed] 24)) := Ext.alloc' _ _
    have hsB : (w2.alloc (.cells #[.int .i64 C.bits, .int .i64 C.rows, .int .i64 C.width, .int .i64 C.mode, .int .u64 C.seed] 24)).heap.size = w2.heap.size + 1 := size_alloc _ _
    have d0 := hP2.c.c0
    have d1 := hP2.c.c1
    have d2 := hP2.c.c2
    have d3 := hP2.c.c3
    have d4 := hP2.c.c4
    have d5 := hP2.c5
    have d6 := hP2.c6
    have dl := hP2.c.lt
    go_wp2_with fail
    generalize w2.alloc (.cells #[.int .i64 C.bits, .int .i64 C.rows, .int .i64 C.width, .int .i64 C.mode, .int .u64 C.seed] 24) = wB at *
    have hSB := hS.ext hEB
    have hPB := hP2.ext hEB
    have hEwB : Ext w wB := hE1.trans' (hE2.trans' hEB)
    have hUB := HU1.out.ext (hE2.trans' hEB)
    have hlt1 := hS.lts
    have hlt2 := hS.g.ltb
    have hlt3 := hS.g.ltc
    have hsz1 := hE1.size
    have hsz2 := hE2.size
    have HSB := Lib.hid hSB
    have HPB := Lib.hid hPB
    have HUB := Lib.hid hUB
    have HCB := Lib.hid hCb
    clear hP2 hS hSB hPB hUB hCb hE2 hEB HP1 HU1 d0 d1 d2 d3 d4 d5 d6 dl
    refine Calls.mono (fed_c x hx 2 (by decide) (by decide) lv hlv us hus _ k 60 hk60 (by omega) _ (HUB.out.ext ?hx) hul) ?_
    case hx => (repeat' (first | exact Ext.refl _ | assumption | apply Ext.allocR | apply Ext.drewR | apply Ext.drewNR | (refine Ext.trans' ?_ (by assumption))))
    rintro e w3 ⟨s2, b2, c2, rfl, hS2, hs2, hb2, hc2, hx3⟩
    rw [HCE.out, HLE.out, HRE.out, HWE.out] at hS2
    rw [HCE.out, HLE.out]
    have hE3 : Ext wB w3 := by (repeat' (first | exact Ext.refl _ | assumption | apply Ext.allocR | apply Ext.drewR | apply Ext.drewNR | (refine Ext.trans' ?_ (by assumption))))
    have hPc := HPB.out.ext hE3
    have hlt4 := hS2.lts
    have hlt5 := hS2.g.ltb
    have hlt6 := hS2.g.ltc
    have hsz3 := hE3.size
    have HS2 := Lib.hid hS2
    clear hx3 hS2
    have d0 := hPc.c.c0
    have d1 := hPc.c.c1
    have d2 := hPc.c.c2
    have d3 := hPc.c.c3
    have d4 := hPc.c.c4
    have d5 := hPc.c5
    have d6 := hPc.c6
    have dl := hPc.c.lt
    have hEC : Ext w3 (w3.alloc (.cells #[.int .i64 C.bits, .int .i64 C.rows, .int .i64 C.width, .int .i64 C.mode, .int .u64 C.seed] 24)) := Ext.alloc' _ _
    have hsD3 : (w3.alloc (.cells #[.int .i64 C.bits, .int .i64 C.rows, .int .i64 C.width, .int .i64 C.mode, .int .u64 C.seed] 24)).heap.size = w3.heap.size + 1 := size_alloc _ _
    have HSD3 := Lib.hid hsD3
    clear hPc hsD3
    go_wp2_with fail
    generalize w3.alloc (.cells #[.int .i64 C.bits, .int .i64 C.rows, .int .i64 C.width, .int .i64 C.mode, .int .u64 C.seed] 24) = wD at *
    have hED : Ext wB wD := hE3.trans' hEC
    have hS2D := HS2.out.ext hEC
    have hsD := hED.size
    have hsC := hEC.size
    have HS2D := Lib.hid hS2D
    clear hS2D HS2 d0 d1 d2 d3 d4 d5 d6 dl hEC hE3
    go_loopw [15] (fun u15 wr => ∃ (i : Nat) (z : Value), i ≤ 60 ∧ i ≤ us.length ∧ u15 = .int .i64 i ∧ Ext wD wr ∧ wr.heap[w3.heap.size + 1]? = some (.cells #[.int .i64 x.bits, .int .i64 x.rows, .int .i64 x.width, .int .i64 x.mode, .int .u64 x.seed, .int .i64 lv, z] 27 (0, 0)) ∧ wr.ownsRow (w3.heap.size + 2) 34 2 z (cutP C LV (fus us 0 i)).length (updV (cutP C LV (fus us 0 i)))) (fun u15 _ => 60 - (intOf u15).toNat)
    case atStart =>
      exact ⟨0, .slice none 0 0, Nat.zero_le _, Nat.zero_le _, rfl, Ext.alloc' _ _, heap_at _ _ HSD3.out.symm, by rw [fus_self]; exact ⟨rfl, .inl ⟨rfl, rfl⟩⟩⟩
    case round =>
      obtain ⟨i, z, hi60, hil, rfl, hE, hpb, hrow⟩ := hrel
      have hP := HPB.out.ext (hED.trans' hE)
      have q6 := hP.c6
      have ql := hP.c.lt
      have hC := HCB.out.ext (hED.trans' hE)
      have l1 := hC.lt
      by_cases hgo : i < us.length ∧ i < 60
      · obtain ⟨hg1, hg2⟩ := hgo
        obtain ⟨ug, off, rfl, hul0, e0', e1'⟩ := HUB.out.one hg1
        have e0 := ((bcell (hED.trans' hE)).1 ug _ hul0).trans e0'
        have e1 := ((bcell (hED.trans' hE)).1 ug _ hul0).trans e1'
        have hulr : ug < wr.heap.size := Nat.lt_of_lt_of_le hul0 (hED.trans' hE).size
        have hu := hus _ (List.getElem_mem hg1)
        have hsn : cutP C LV (fus us 0 (i + 1)) = cutP C LV (fus us 0 i) ++ [(cutK C LV us[i].1, cutD C.mode us[i].2)] := by
          rw [fus_snoc us (Nat.zero_le i) hg1, cutP_snoc]
          have : us.getD i (0, 0) = us[i] := by simp [hg1]
          rw [this]
        have hln : (cutP C LV (fus us 0 i)).length ≤ 60 := by rw [cutP_len]; exact Nat.le_trans (fus_len us 0 i) hi60
        have c0 := hC.c0
        have c1 := hC.c1
        have c2 := hC.c2
        have c3 := hC.c3
        have c4 := hC.c4
        have p6 := (cell_of hpb 6).trans rfl
        have pl := lt_of hpb
        generalize us[i] = uu at *
        obtain ⟨uk, ud⟩ := uu
        generalize cutP C LV (fus us 0 i) = PS at *
        have HSN := Lib.hid hsn
        have HPB' := Lib.hid hpb
        have HROW := Lib.hid hrow
        have hzs := hE.size
        obtain ⟨S, hSS⟩ : ∃ S : Nat → Prop, ∀ i, S i ↔ z.ownBlock = some i := ⟨_, fun _ => Iff.rfl⟩
        have hSb : ∀ i, i < w3.heap.size + 2 → ¬ S i := fun i hi h => by have := own_blk HROW.out ((hSS i).1 h); omega
        have n1 : ¬ S w.heap.size := hSb _ (by have := hEwB.size; have := HPB.out.c.lt; omega)
        have n2 : ¬ S w2.heap.size := hSb _ (by have := HCB.out.lt; omega)
        have n3 : ¬ S ug := hSb _ (by omega)
        have n4 : ¬ S (w3.heap.size + 1) := hSb _ (by omega)
        have HSS := Lib.hid hSS
        clear hsn hP hC hpb hrow e0' e1' hSb hSS
        go_wp2_with fail
        have hC0 := afs_drew S wr
        refine pi_start (fun w' => ∃ x : AftS S wr, w' = x.w) [13] (by kernel_rfl) ?_
        refine pi_t 0 rfl (by kernel_rfl) (by kernel_rfl) (fun _ _ _ _ h => h) (fun K hK => ?_)
        go_big_quiet_op
        refine hK _ ?_
        clear hK K
        refine pi_c 1 (by assumption) rfl (by kernel_rfl) (by kernel_rfl) (fun _ _ _ _ h => h) (fun K hK => ?_)
        go_big_quiet_op
        refine hK _ ?_
        clear hK K
        refine pi_c 2 (by assumption) rfl (by kernel_rfl) (by kernel_rfl) (fun _ _ _ _ h => h) (fun K hK => ?_)
        go_big_quiet_op
        refine hK _ ?_
        clear hK K
        refine pi_t 3 rfl (by kernel_rfl) (by kernel_rfl) (fun _ _ _ _ h => h) (fun K hK => ?_)
        go_big_quiet_op
        refine hK _ ?_
        clear hK K
        refine pi_t 4 rfl (by kernel_rfl) (by kernel_rfl) (fun _ _ _ _ h => h) (fun K hK => ?_)
        go_big_quiet_op
        refine hK _ ?_
        clear hK K
        refine pi_c 5 (by assumption) rfl (by kernel_rfl) (by kernel_rfl) (fun _ _ _ _ h => h) (fun K hK => ?_)
        go_big_quiet_op
        refine hK _ ?_
        clear hK K
        refine pi_t 6 rfl (by kernel_rfl) (by kernel_rfl) (fun _ _ _ _ h => h) (fun K hK => ?_)
        go_big_quiet_op
        refine hK _ ?_
        clear hK K
        refine pi_t 7 rfl (by kernel_rfl) (by kernel_rfl) (fun _ _ _ _ h => h) (fun K hK => ?_)
        go_big_quiet_op
        refine hK _ ?_
        clear hK K
        refine pi_c 8 (by assumption) rfl (by kernel_rfl) (by kernel_rfl) (fun _ _ _ _ h => h) (fun K hK => ?_)
        go_big_quiet_op
        refine hK _ ?_
        clear hK K
        refine pi_l 9 rfl (by kernel_rfl) (fun K hK => ?_)
        go_wp2_with (go_at_call 19; refine (cut_c C hok LV lb1 lb2 uk ud hu.1 hu.2 _).mono ?_; rintro e wx ⟨rfl, hx3⟩)
        refine hK _ _ (fun _ h => afs_step h hx3) ?_
        clear hK K
        refine pi_l 10 rfl (by kernel_rfl) (fun K hK => ?_)
        go_wp2
        refine hK _ _ (fun _ h => afs_step h (Ext.alloc' _ _)) ?_
        clear hK K
        have hEx : Ext wr wx := Ext.trans' (Below.drew (Ext.refl wr)) hx3
        refine pi_l 11 rfl (by kernel_rfl) (fun K hK => ?_)
        obtain ⟨i0, z0, hi0, hz0, hz1, hz2, hz3⟩ := info_upd
        have hrx : wx.ownsRow (w3.heap.size + 2) 34 2 z PS.length (updV PS) := own_ext HROW.out hEx
        go_wp2_with (at_builtin; refine wpList_appu wx (cutK C LV uk, cutD C.mode ud) PS z (w3.heap.size + 2) 34 34 hrx 25 rfl _ _ rfl i0 z0 hi0 hz0 hz1 hz2 hz3 Try.underlying25 rfl rfl ?a1 ?a2 ?_)
        case a1 => omega
        case a2 => have := hEx.size; omega
        intro z' w4 hr4 hg4 hd4
        obtain ⟨zp, zc, rfl⟩ := own_sl hr4
        have hb4 := (grown_old hg4 (j := w3.heap.size + 1) (Nat.lt_of_lt_of_le pl hEx.size) (fun e => by have := own_blk hrx e.symm; omega)).trans (hEx.keep HPB'.out)
        have hE4 : Ext wD w4 := ext_grown (hE.trans' hEx) hg4 (fun k hk => by have := own_blk hrx hk; have := HSD3.out; omega)
        have p6' := (cell_of hb4 6).trans rfl
        have f6' := frozen_of hb4 6
        have HR4 := Lib.hid hr4
        have HB4 := Lib.hid hb4
        have hm4 : Mod S wr w4 := mod_grown (hEx.mod _) hg4 (fun i hi => (HSS.out i).2 hi)
        clear hg4 hd4 hr4 hb4 hrx
        go_wp2
        refine hK _ _ (fun _ _ => ⟨⟨w4, hm4⟩, rfl⟩) ?_
        clear hK K
        refine pi_t 12 rfl (by kernel_rfl) (by kernel_rfl) (fun _ _ _ _ h => h) (fun K hK => ?_)
        go_big_quiet_op
        refine hK _ ?_
        clear hK K
        refine pi_l 13 rfl (by kernel_rfl) (fun K hK => ?_)
        go_wp2
        refine hK _ _ (by simp) ?_
        clear hK K
        refine pi_end (by kernel_rfl) ?_
        go_wp2_with fail
        go_roundw
        case rel =>
          refine ⟨i + 1, _, by omega, by omega, by go_num, hE4.setR (by have := HSD3.out; show _ ≤ w3.heap.size + 1; omega) _, setCell_same HB4.out 6 _, ?_⟩
          rw [HSN.out]
          have := own_setc HR4.out (b := w3.heap.size + 1) (by omega) 6 (.slice zp (PS.length + 1) zc)
          rwa [List.length_append]
        case measure => simp [intOf]; omega
      · have hfe := fus_end us (i := 0) (j := 60) (k := i) (by omega) (by omega) (.inr ⟨hi60, hil⟩) hgo
        rw [hfe] at hrow
        have hUz := UpsAt.of_row hrow
        have hPok := ups_ok_cut C hok LV lb1 (fus us 0 60)
        have hPl : (cutP C LV (fus us 0 60)).length ≤ 60 := by rw [cutP_len]; exact fus_len us 0 60
        obtain ⟨zp, zc, rfl⟩ := own_sl hrow
        have p0 := (cell_of hpb 0).trans rfl
        have p1 := (cell_of hpb 1).trans rfl
        have p2 := (cell_of hpb 2).trans rfl
        have p3 := (cell_of hpb 3).trans rfl
        have p4 := (cell_of hpb 4).trans rfl
        have p5 := (cell_of hpb 5).trans rfl
        have p6 := (cell_of hpb 6).trans rfl
        have pl := lt_of hpb
        have HUZ := Lib.hid hUz
        have hEr := hED.trans' hE
        clear hrow hpb hUz hfe hP hC
        go_wp2_with fail
        all_goals
          refine Calls.mono (fed_c x hx 1 (by decide) (by decide) lv hlv (cutP C LV (fus us 0 60)) hPok _ 0 60 (by omega) (by omega) _ HUZ.out (by omega)) ?_
          rintro e w5 ⟨s3, b3, c3, rfl, hS3, hs3, hb3, hc3, hx5⟩
          rw [HCL.out, HLE.out, HRE.out, HWE.out] at hS3
          rw [HCL.out, HLE.out]
          have hE5 : Ext wB w5 := hEr.trans' hx5
          have hE5D : Ext wD w5 := hE.trans' hx5
          have hS5 := HSB.out.ext hE5
          have hT5 := HS2D.out.ext hE5D
          have hpf := plus_fit C LV R W (fus us 0 k) (fus us k 60) (Nat.le_trans (fus_len us 0 k) (by omega)) (Nat.le_trans (fus_len us k 60) (by omega))
          have hs5 := hE5.size
          have hs5D := hE5D.size
          have hszr := hE.size
          have HS5 := Lib.hid hS5
          have HT5 := Lib.hid hT5
          have HS3 := Lib.hid hS3
          have HPF := Lib.hid hpf
          clear p0 p1 p2 p3 p4 p5 p6 pl q6 ql l1 hx5 hS5 hT5 hS3 hpf HUZ hPok hPl
          go_wp2_with fail
          refine Calls.mono (SMerge_c s b c s2 b2 c2 C LV R W _ _ _ (HS5.out.ext ?hx) (HT5.out.ext ?hy)) ?_
          case hx => (repeat' (first | exact Ext.refl _ | assumption | apply Ext.allocR | apply Ext.drewR | apply Ext.drewNR | (refine Ext.trans' ?_ (by assumption))))
          case hy => (repeat' (first | exact Ext.refl _ | assumption | apply Ext.allocR | apply Ext.drewR | apply Ext.drewNR | (refine Ext.trans' ?_ (by assumption))))
          intro e w6 hr
          rcases hr with ⟨ha, rfl, hS6, hM6⟩ | ⟨ha, _⟩
          rotate_left
          · exact absurd HPF.out ha
          · clear ha
            have hE6 : Ext w w6 := by
              refine Below.trans (Ext.trans' hEwB (Ext.trans' hE5 ?_)) (hM6.below (B := w.heap.size) (by simp only [size_alloc]; have := hEwB.size; omega) (fun i hi => by omega))
              (repeat' (first | exact Ext.refl _ | assumption | apply Ext.allocR | apply Ext.drewR | apply Ext.drewNR | (refine Ext.trans' ?_ (by assumption))))
            have hP6 : PlayAt w6 w.heap.size x lv (.slice vp us.length vc) := by
              refine PlayAt.mod (PlayAt.ext HPB.out (Ext.trans' hE5 ?_)) hM6 (by omega)
              (repeat' (first | exact Ext.refl _ | assumption | apply Ext.allocR | apply Ext.drewR | apply Ext.drewNR | (refine Ext.trans' ?_ (by assumption))))
            have hC6 : CfgAt w6 w2.heap.size C := by
              refine CfgAt.mod (CfgAt.ext HCB.out (Ext.trans' hE5 ?_)) hM6 (by omega)
              (repeat' (first | exact Ext.refl _ | assumption | apply Ext.allocR | apply Ext.drewR | apply Ext.drewNR | (refine Ext.trans' ?_ (by assumption))))
            have hS36 : SAt w6 s3 b3 c3 (lin C) LV R W (feed (lin C) LV R W (fus (cutP C LV (fus us 0 60)) 0 60) (zs (R * W))) := by
              refine SAt.mod (SAt.ext HS3.out ?_) hM6 (by omega) (by omega) (by omega)
              (repeat' (first | exact Ext.refl _ | assumption | apply Ext.allocR | apply Ext.drewR | apply Ext.drewNR | (refine Ext.trans' ?_ (by assumption))))
            have hU6 := UpsAt.ext HV.out hE6
            have HP6 := Lib.hid hP6
            have HC6 := Lib.hid hC6
            have HS6 := Lib.hid hS6
            have HS36 := Lib.hid hS36
            have HU6 := Lib.hid hU6
            have c0 := hC6.c0
            have c1 := hC6.c1
            have c2 := hC6.c2
            have c3 := hC6.c3
            have c4 := hC6.c4
            have cl := hC6.lt
            have hkb := keys_bd C hok LV lb1
            have hkn : keys C LV ≠ 0 := by omega
            clear hP6 hC6 hS6 hS36 hU6 hM6 HS5 HT5 HS3 HPF hE5 hE5D hEr hE hE1 hED
            go_wp2_with fail
            refine Calls.mono (KeysR_c C hok LV lb1 lb2 _) ?_
            rintro e w7 ⟨rfl, hx7⟩
            have hE7 : Ext w6 w7 := by (repeat' (first | exact Ext.refl _ | assumption | apply Ext.allocR | apply Ext.drewR | apply Ext.drewNR | (refine Ext.trans' ?_ (by assumption))))
            clear hx7 c0 c1 c2 c3 c4 cl
            have q1 := (HP6.out.ext hE7).c6
            have ql := (HP6.out.ext hE7).c.lt
            have hKK : keys C LV = keys C LV := rfl
            generalize hKN : keys C LV = KK at *
            have HKN := Lib.hid hKN
            clear hKK hKN
            have hq0 : 0 ≤ key % KK := Int.emod_nonneg _ hkn
            have hq1 : key % KK < KK := Int.emod_lt_of_pos _ (by omega)
            have hkk1 := hkey.1
            have hkk2 := hkey.2
            go_upto_region 14 with (fail)
            generalize key % KK = kq at *
            go_cut [105] (fun s105 wx => ∃ bb : Bool, s105 = .bool bb ∧ (bb = true → 0 < us.length) ∧ wx = w7)
            case first =>
              by_cases hlen : 0 < us.length
              · by_cases hev : kq % 2 = 0
                · have hev' : (kq % 2 == 0) = true := by simpa using hev
                  clear hev
                  go_wp2_with fail
                  go_meet
                  exact ⟨_, rfl, fun _ => hlen, rfl⟩
                · have hev' : (kq % 2 == 0) = false := by simpa using hev
                  clear hev
                  go_wp2_with fail
                  go_meet
                  exact ⟨_, rfl, fun _ => hlen, rfl⟩
              · first
                  | (exfalso; omega)
                  | (go_wp2_with fail
                     go_meet
                     exact ⟨false, rfl, (by simp), rfl⟩)
            case rest =>
              obtain ⟨bb, rfl, hbb, rfl⟩ := hcut
              go_upto_if 105 with (fail)
              go_cut [2] (fun s2' wx => ∃ kk : Int, 0 ≤ kk ∧ kk < KK ∧ s2' = .int .u64 kk ∧ Ext w6 wx)
              case first =>
                cases bb
                · go_wp2_with fail
                  go_meet
                  exact ⟨kq, hq0, hq1, rfl, hE7⟩
                · have hlen := hbb rfl
                  obtain ⟨ug, off, rfl, hul0, d0, d1⟩ := (UpsAt.ext HU6.out hE7).one hlen
                  have hC3' := HC6.out.ext hE7
                  have c0 := hC3'.c0
                  have c1 := hC3'.c1
                  have c2 := hC3'.c2
                  have c3 := hC3'.c3
                  have c4 := hC3'.c4
                  have cl := hC3'.lt
                  have hu := hus _ (List.getElem_mem hlen)
                  generalize us[0] = uu at *
                  obtain ⟨uk, ud⟩ := uu
                  have hr0 : 0 ≤ uk % KK := Int.emod_nonneg _ hkn
                  have hr1 : uk % KK < KK := Int.emod_lt_of_pos _ (by omega)
                  obtain ⟨hu1, hu2⟩ := hu.1
                  have kz : (KK == 0) = false := by simpa using hkn
                  rw [Nat.zero_mul, Nat.add_zero] at d0
                  clear hC3' hu hbb
                  go_wp2_with fail
                  refine wp_region_after (by kernel_rfl) (by kernel_rfl) ?_
                  repeat (go_big_quiet_step ((go_at_call 23; exact quiet_after (HKN.out ▸ KeysR_c C hok LV lb1 lb2 _))))
                  refine wpQuiet_nil ?_
                  rintro _ ⟨xx, rfl⟩
                  obtain ⟨w4, hb4⟩ := xx
                  try dsimp only
                  go_wp2_with fail
                  go_meet
                  exact ⟨uk % KK, hr0, hr1, rfl, hE7.trans' hb4⟩
              case rest =>
                obtain ⟨kk, hkk0, hkk3, rfl, hEc⟩ := hcut
                have hkk4 : kk < keys C LV := by rw [HKN.out]; exact hkk3
                have hkk5 : kk < keys (lin C) LV := hkk4
                clear q1 ql hE7 hq0 hq1 hkn hkk1 hkk2 hbb hkk3
                have hm2 : C.mode ≠ 3 := by rw [HCM.out]; decide
                have hm1 : (lin C).mode ≠ 3 := show (1 : Int) ≠ 3 by decide
                go_wp2_with fail
                refine Calls.mono (Point_c s b c C LV R W _ kk _ (HS6.out.ext ?hx) hkk0 hkk4) ?_
                case hx => (repeat' (first | exact Ext.refl _ | assumption | apply Ext.allocR | apply Ext.drewR | apply Ext.drewNR | (refine Ext.trans' ?_ (by assumption))))
                rintro e w8 ⟨pa, rfl, hpa, hx8⟩
                rw [if_neg hm2] at hpa
                have hE8 : Ext w6 w8 := by (repeat' (first | exact Ext.refl _ | assumption | apply Ext.allocR | apply Ext.drewR | apply Ext.drewNR | (refine Ext.trans' ?_ (by assumption))))
                have HPA := Lib.hid hpa
                clear hx8 hpa hEc
                go_wp2_with fail
                refine Calls.mono (Point_c s3 b3 c3 (lin C) LV R W _ kk _ (HS36.out.ext ?hx) hkk0 hkk5) ?_
                case hx => (repeat' (first | exact Ext.refl _ | assumption | apply Ext.allocR | apply Ext.drewR | apply Ext.drewNR | (refine Ext.trans' ?_ (by assumption))))
                rintro e w9 ⟨pb, rfl, hpb, hx9⟩
                rw [if_neg hm1] at hpb
                have hE9 : Ext w6 w9 := hE8.trans' (by (repeat' (first | exact Ext.refl _ | assumption | apply Ext.allocR | apply Ext.drewR | apply Ext.drewNR | (refine Ext.trans' ?_ (by assumption)))))
                have hlaw := bounds_law hok lb1 HS6.out.hr HS6.out.hw HCM.out us hk60 kk pa pb HPA.out hpb
                clear hx9 hpb HPA hE8
                have hPc := HP6.out.ext hE9
                have hCc := HC6.out.ext hE9
                have q6 := hPc.c6
                have ql := hPc.c.lt
                have c0 := hCc.c0
                have c1 := hCc.c1
                have c2 := hCc.c2
                have c3 := hCc.c3
                have c4 := hCc.c4
                have cl := hCc.lt
                have q0 := hPc.c.c0
                have q1 := hPc.c.c1
                have q2 := hPc.c.c2
                have q3 := hPc.c.c3
                have q4 := hPc.c.c4
                have q5 := hPc.c5
                have HLAW := Lib.hid hlaw
                clear hPc hCc hlaw
                go_wp2_with fail
                refine Calls.mono (has_c x lv us hus _ C hok LV lb1 lb2 kk _ (HU6.out.ext (by (repeat' (first | exact Ext.refl _ | assumption | apply Ext.allocR | apply Ext.drewR | apply Ext.drewNR | (refine Ext.trans' ?_ (by assumption)))))) hul) ?_
                rintro e w10 ⟨rfl, hx10⟩
                obtain ⟨la, lb⟩ := HLAW.out
                have hE10 : Ext w w10 := hE6.trans' (hE9.trans' (by (repeat' (first | exact Ext.refl _ | assumption | apply Ext.allocR | apply Ext.drewR | apply Ext.drewNR | (refine Ext.trans' ?_ (by assumption))))))
                generalize hasP kk (cutP C LV (fus us 0 60)) = own' at *
                clear q0 q1 q2 q3 q4 q5 q6 ql c0 c1 c2 c3 c4 cl hx10
                go_wp2
                go_ret
                exact ⟨rfl, hE10⟩
end Go.Proofs.Ythancaehlijaoaa
