/- MergeBounds: in the mode Conservative, behind any updates and a merge, no prefix is told less than it has, nor more than in the mode Linear behind the same. No condition: every input. -/
import Derived.Test.YtdenbmmbeeamcaaGreatL4
import Derived.Test.YtdenbmmbeeamcaaGreatL6
import Derived.Test.YtdenbmmbeeamcaaGreatL9
import Derived.Test.YtdenbmmbeeamcaaGreatL5
import Derived.Test.YtdenbmmbeeamcaaGreatL7

/- Plain law: a merged stack in the mode Conservative lies between what keys have and what a Linear one tells. -/
namespace Go.Proofs.YtdenbmmbeeamcaaGreat
set_option linter.unusedVariables false
open Go.RowKit
theorem kcfg_lin (x : Cfg) : kcfg x 10 1 = lin (kcfg x 10 2) := by
  unfold kcfg; rw [if_pos (by decide), if_pos (by decide)]; rfl
theorem isX_lin (C : Cfg) (lv : Int) : isX (lin C) lv = isX C lv := rfl
theorem shU_fus (n : Nat) (us : List (Int × Int)) (i j : Nat) : fus (shU n us) i j = shU n (fus us i j) := by
  unfold fus shU; rw [List.map_drop, List.map_take]
theorem shU_cut (C : Cfg) (n : Nat) (us : List (Int × Int)) : shU n (cutP C 0 us) = stP C n us := by
  unfold shU cutP stP sh; rw [List.map_map]; rfl
theorem cutP_okB (C : Cfg) (hok : C.Ok) (us : List (Int × Int)) : UpsOk (cutP C 0 us) := by
  intro u hu
  simp only [cutP, List.mem_map] at hu
  obtain ⟨v, _, rfl⟩ := hu
  have hk := cutK_bd C hok 0 v.1 (Int.le_refl 0)
  have hkb := keys_bd C hok 0 (Int.le_refl 0)
  have hd := cutD_bd C.mode v.2
  refine ⟨⟨hk.1, ?_⟩, ?_⟩
  · show cutK C 0 v.1 < _; omega
  · show -9223372036854775808 ≤ cutD C.mode v.2 ∧ _; omega
theorem stP_lin {C : Cfg} (hok : C.Ok) (n : Nat) (us : List (Int × Int)) : stP (lin C) n (cutP C 0 us) = stP C n us := by
  have h := cutP_lin C hok 0 (Int.le_refl 0) us
  rw [← shU_cut (lin C) n (cutP C 0 us), h, shU_cut]
theorem mbounds_law {C : Cfg} (hok : C.Ok) {n : Nat} (hn : (n : Int) ≤ C.bits) (hm : C.mode = 2) {us : List (Int × Int)} (hus : UpsOk us) {k : Nat} (hk : k ≤ 60) {j a b : Int} (h0 : 0 ≤ j)
    (ha : lvPt C n (plusL (feedT C false (fus us 0 k) n) (feedT C false (fus us k 60) n)) j a)
    (hb : lvPt (lin C) n (feedT (lin C) false (fus (cutP C 0 (fus us 0 60)) 0 60) n) j b) : hasK C us 60 n j ≤ a ∧ a ≤ b := by
  rw [feedT_false, feedT_false] at ha
  rw [feedT_false] at hb
  have hf : fus (cutP C 0 (fus us 0 60)) 0 60 = cutP C 0 (fus us 0 60) := fus_full _ (by rw [cutP_len]; exact fus_len us 0 60)
  have hcat : stP C n (fus us 0 60) = stP C n (fus us 0 k) ++ stP C n (fus us k 60) := by rw [← fus_cat us hk]; simp [stP]
  have hco := cutP_okB C hok (fus us 0 60)
  cases hx : isX C n with
  | true =>
    replace ha : a = _ := ha.elim (fun h => h.2) (fun h => by rw [hx] at h; cases h.1)
    replace hb : b = _ := hb.elim (fun h => h.2) (fun h => by rw [isX_lin, hx] at h; cases h.1)
    obtain ⟨q, rfl⟩ : ∃ q : Nat, j = q := ⟨j.toNat, by omega⟩
    rw [hf, Int.toNat_natCast, feedK_x (lin_ok hok) hn hco (by rw [isX_lin]; exact hx), stP_lin hok] at hb
    have e1 := feedK_x hok hn (fus_ok hus 0 k) hx q
    have e2 := feedK_x hok hn (fus_ok hus k 60) hx q
    have e : a = hasP (q : Int) (stP C n (fus us 0 k)) + hasP (q : Int) (stP C n (fus us k 60)) := by
      rw [ha, Int.toNat_natCast, ← e1, ← e2]
      rcases Nat.lt_or_ge q (feedK C (fus us 0 k) n).length with h | h
      · exact plusL_get h
      · have l1 : (plusL (feedK C (fus us 0 k) n) (feedK C (fus us k 60) n)).length ≤ q := by rw [plusL_len]; exact h
        have l2 : (feedK C (fus us k 60) n).length ≤ q := by rw [feedK_len] at h ⊢; exact h
        simp only [List.getD_eq_getElem?_getD, List.getElem?_eq_none l1, List.getElem?_eq_none h, List.getElem?_eq_none l2]
        rfl
    unfold hasK
    rw [hcat] at hb ⊢
    unfold hasP at *
    rw [sumIf_append] at hb ⊢
    omega
  | false =>
    rcases ha with ⟨h, _⟩ | ⟨_, ha⟩
    · rw [hx] at h; cases h
    rcases hb with ⟨h, _⟩ | ⟨_, hb⟩
    · rw [isX_lin, hx] at h; cases h
    rw [if_neg (by rw [hm]; decide), feedK_s hok hn (fus_ok hus 0 k) hx, feedK_s hok hn (fus_ok hus k 60) hx, ← shU_fus, ← shU_fus] at ha
    rw [if_neg (show (lin C).mode ≠ 3 from (by decide : (1 : Int) ≠ 3)), hf, feedK_s (lin_ok hok) hn hco (by rw [isX_lin]; exact hx), shU_cut] at hb
    have hs : stP C n (fus us 0 60) = cutP C n (fus (shU n us) 0 60) := by rw [shU_fus, stP_cutP hok hn (fus_ok hus 0 60)]
    have hfl : fus (cutP C n (fus (shU n us) 0 60)) 0 60 = cutP C n (fus (shU n us) 0 60) := fus_full _ (by rw [cutP_len]; exact fus_len _ 0 60)
    rw [hs, ← hfl] at hb
    have := bounds_law hok (Int.natCast_nonneg n) (rN_eq hok) (wN_eq hok) hm (shU n us) hk j a b ha hb
    unfold hasK
    rw [hs]
    exact this
end Go.Proofs.YtdenbmmbeeamcaaGreat

/- gaugerlaw20.MergeBounds, walked. -/
namespace Go.Proofs.YtdenbmmbeeamcaaGreat
set_option linter.unusedVariables false
open Go.RowKit
theorem key_u64 {j K : Int} (h0 : 0 ≤ j) (h1 : j < K) (h2 : K ≤ 576460752303423488) : U64 j := by unfold U64; omega
set_option maxRecDepth 20000 in
set_option maxHeartbeats 16000000 in
theorem MBounds_core (x : Cfg) (hx : x.Raw) (part : Int) (k : Nat) (hk60 : k ≤ 60) (h16 : bits BinOp.and IntKind.i64 part 65535 = part % 65536) (hk : part % 65536 % 61 = k) (h16b : 0 ≤ part % 65536 ∧ part % 65536 < 65536) (la key : Int) (hla : U64 la) (hkey : U64 key) (us : List (Int × Int)) (hus : UpsOk us) (v : Value) (w : World) (hv : UpsAt w v us) (hul : us.length ≤ 140737488355328) :
    Calls Tryz.prog 18 #[.agg #[.int .i64 x.bits, .int .i64 x.rows, .int .i64 x.width, .int .i64 x.mode, .int .u64 x.seed, v], .int .i64 part, .agg #[.int .u64 la, .int .u64 key]] w fun e w' => e = .returned (.bool true) ∧ Ext w w' := by
  obtain ⟨vp, vc, rfl⟩ := hv.sl
  have HV := Lib.hid hv
  have HK := Lib.hid hk
  have HLA := Lib.hid hla
  have HKEY := Lib.hid hkey
  have hk0 : 0 ≤ part % 65536 % 61 := by omega
  clear hv hla hkey
  go_enter Tryz.func18, Tryz.ntmps18
  go_wp2_with fail
  refine (shown20_c _).mono ?_
  rintro e w1 ⟨rfl, hb1⟩
  have hE : Ext w w1 := by (repeat' (first | exact Ext.refl _ | assumption | apply Ext.allocR | apply Ext.drewR | apply Ext.drewNR | (refine Ext.trans' ?_ (by assumption))))
  have hP := hb1.keep ((Ext.alloc' _ _).keep (heap_at w (.cells #[.int .i64 x.bits, .int .i64 x.rows, .int .i64 x.width, .int .i64 x.mode, .int .u64 x.seed, .slice vp us.length vc] 128) rfl))
  have hU := hb1.keep (heap_at _ (.cells #[.int .u64 la, .int .u64 key] 143) (by rw [size_alloc]))
  have hcm : (kcfg x 10 2).mode = 2 := by unfold kcfg; rw [if_pos (by decide)]
  have hok := kcfg_ok x hx.s (nb := 10) (m := 2) (by decide) (by decide) (by decide)
  have HFF := Lib.hid (fun (i j : Nat) (hij : i ≤ j) (hj : j ≤ 60) (W : World) (hW : Ext w W) => fed20f_c x hx 2 (by decide) (by decide) us hus (.slice vp us.length vc) i j hij hj (fun h => by cases h) W (HV.out.ext hW) hul)
  have HFL := Lib.hid (fun (ps : List (Int × Int)) (hps : UpsOk ps) (z : Value) (W : World) (hz : UpsAt W z ps) (hl : ps.length ≤ 140737488355328) => by have := fed20f_c x hx 1 (by decide) (by decide) ps hps z 0 60 (by decide) (by decide) (fun h => by cases h) W hz hl; rw [kcfg_lin] at this; exact this)
  clear hb1
  have p0 := (cell_of hP 0).trans rfl
  have p1 := (cell_of hP 1).trans rfl
  have p2 := (cell_of hP 2).trans rfl
  have p3 := (cell_of hP 3).trans rfl
  have p4 := (cell_of hP 4).trans rfl
  have p5 := (cell_of hP 5).trans rfl
  have pl := lt_of hP
  go_upto_region 3 with (fail)
  rw [hk] at *
  generalize kcfg x 10 2 = C at *
  obtain ⟨B, hB⟩ : ∃ B : Nat, C.bits = B := ⟨C.bits.toNat, by have := hok.b1; omega⟩
  have hBt : C.bits.toNat = B := by omega
  have HB := Lib.hid hB
  have HCM := Lib.hid hcm
  have HOK := Lib.hid hok
  have HBT := Lib.hid hBt
  have HBTL := Lib.hid (show (lin C).bits.toNat = B from hBt)
  have hs1 := hE.size
  clear hBt hB h16 hk0 h16b hk hcm hok
  go_wp2_with fail
  refine Calls.mono (HFF.out 0 k (Nat.zero_le _) hk60 _ hE) ?_
  rintro e w10 ⟨s1, g1, L1, rfl, hKn, _, _, hFn, hxn⟩
  rw [HBT.out] at hKn hFn
  have I1 := Lib.hid (hKn.kin hFn)
  have hxm : Ext w10 (w10.alloc (.cells #[.int .i64 C.bits, .int .i64 C.rows, .int .i64 C.width, .int .i64 C.mode, .int .u64 C.seed] 24)) := Ext.alloc' _ _
  have hQ : (w10.alloc (.cells #[.int .i64 C.bits, .int .i64 C.rows, .int .i64 C.width, .int .i64 C.mode, .int .u64 C.seed] 24)).heap[w10.heap.size]? = some (.cells #[.int .i64 C.bits, .int .i64 C.rows, .int .i64 C.width, .int .i64 C.mode, .int .u64 C.seed] 24 (0, 0)) := heap_at _ _ rfl
  go_upto_region 4 with (fail)
  generalize w10.alloc (.cells #[.int .i64 C.bits, .int .i64 C.rows, .int .i64 C.width, .int .i64 C.mode, .int .u64 C.seed] 24) = w11 at *
  have hsn := hxn.size
  have hsm := hxm.size
  have hxx := hxn.trans' hxm
  have z1 := Lib.hid (And.intro hsn hsm)
  clear p0 p1 p2 p3 p4 p5 pl
  replace hP := hxx.keep hP
  replace hU := hxx.keep hU
  replace hE := hE.trans' hxx
  have K1 := Lib.hid (hKn.ext hxm)
  clear hKn hFn hxn hxm hxx hsn hsm
  have p0 := (cell_of hP 0).trans rfl
  have p1 := (cell_of hP 1).trans rfl
  have p2 := (cell_of hP 2).trans rfl
  have p3 := (cell_of hP 3).trans rfl
  have p4 := (cell_of hP 4).trans rfl
  have p5 := (cell_of hP 5).trans rfl
  have pl := lt_of hP
  go_wp2_with fail
  refine Calls.mono (HFF.out k 60 hk60 (Nat.le_refl _) _ hE) ?_
  rintro e w12 ⟨s2, g2, L2, rfl, hKn, _, _, hFn, hxn⟩
  rw [HBT.out] at hKn hFn
  have I2 := Lib.hid (hKn.kin hFn)
  have hxm : Ext w12 (w12.alloc (.cells #[.int .i64 C.bits, .int .i64 C.rows, .int .i64 C.width, .int .i64 C.mode, .int .u64 C.seed] 24)) := Ext.alloc' _ _
  go_upto_region 5 with (fail)
  generalize w12.alloc (.cells #[.int .i64 C.bits, .int .i64 C.rows, .int .i64 C.width, .int .i64 C.mode, .int .u64 C.seed] 24) = w13 at *
  have hsn := hxn.size
  have hsm := hxm.size
  have hxx := hxn.trans' hxm
  have z2 := Lib.hid (And.intro hsn hsm)
  clear p0 p1 p2 p3 p4 p5 pl
  replace K1 := Lib.hid (K1.out.ext hxx)
  replace hP := hxx.keep hP
  replace hU := hxx.keep hU
  replace hQ := hxx.keep hQ
  replace hE := hE.trans' hxx
  have K2 := Lib.hid (hKn.ext hxm)
  clear hKn hFn hxn hxm hxx hsn hsm
  have p0 := (cell_of hP 0).trans rfl
  have p1 := (cell_of hP 1).trans rfl
  have p2 := (cell_of hP 2).trans rfl
  have p3 := (cell_of hP 3).trans rfl
  have p4 := (cell_of hP 4).trans rfl
  have p5 := (cell_of hP 5).trans rfl
  have pl := lt_of hP
  clear HFF
  have ZZ := Lib.hid (And.intro hs1 (And.intro z1.out z2.out))
  clear hs1 z1 z2
  go_upto_region 6 with (fail)
  clear p0 p1 p2 p3 p4 p5 pl
  go_wp2_with fail
  go_loopw [13] (fun u13 wr => ∃ (i : Nat) (z : Value), i ≤ 60 ∧ i ≤ us.length ∧ u13 = .int .i64 i ∧ Ext w13 wr ∧ wr.heap[w13.heap.size]? = some (.cells #[.int .i64 x.bits, .int .i64 x.rows, .int .i64 x.width, .int .i64 x.mode, .int .u64 x.seed, z] 128 (0, 0)) ∧ wr.ownsRow (w13.heap.size + 1) 60 2 z (cutP C 0 (fus us 0 i)).length (updV (cutP C 0 (fus us 0 i)))) (fun u13 _ => 60 - (intOf u13).toNat)
  case atStart =>
    exact ⟨0, .slice none 0 0, Nat.zero_le _, Nat.zero_le _, rfl, Ext.alloc' _ _, heap_at _ _ rfl, by rw [fus_self]; exact ⟨rfl, .inl ⟨rfl, rfl⟩⟩⟩
  case round =>
    obtain ⟨i, z, hi60, hil, rfl, hEr, hpb, hrow⟩ := hrel
    have hPr := hEr.keep hP
    have hQr := hEr.keep hQ
    by_cases hgo : i < us.length ∧ i < 60
    · obtain ⟨hg1, hg2⟩ := hgo
      obtain ⟨ug, off, rfl, hul0, e0', e1'⟩ := HV.out.one hg1
      have hwr := hE.trans' hEr
      have e0 := ((bcell hwr).1 ug _ hul0).trans e0'
      have e1 := ((bcell hwr).1 ug _ hul0).trans e1'
      have hulr : ug < wr.heap.size := Nat.lt_of_lt_of_le hul0 hwr.size
      have hu := hus _ (List.getElem_mem hg1)
      have hsn : cutP C 0 (fus us 0 (i + 1)) = cutP C 0 (fus us 0 i) ++ [(cutK C 0 us[i].1, cutD C.mode us[i].2)] := by
        rw [fus_snoc us (Nat.zero_le i) hg1, cutP_snoc]
        have : us.getD i (0, 0) = us[i] := by simp [hg1]
        rw [this]
      have hln : (cutP C 0 (fus us 0 i)).length ≤ 60 := by rw [cutP_len]; exact Nat.le_trans (fus_len us 0 i) hi60
      have p0 := (cell_of hPr 0).trans rfl
      have p1 := (cell_of hPr 1).trans rfl
      have p2 := (cell_of hPr 2).trans rfl
      have p3 := (cell_of hPr 3).trans rfl
      have p4 := (cell_of hPr 4).trans rfl
      have p5 := (cell_of hPr 5).trans rfl
      have pl := lt_of hPr
      have c0 := (cell_of hQr 0).trans rfl
      have c1 := (cell_of hQr 1).trans rfl
      have c2 := (cell_of hQr 2).trans rfl
      have c3 := (cell_of hQr 3).trans rfl
      have c4 := (cell_of hQr 4).trans rfl
      have cl := lt_of hQr
      have d5 := (cell_of hpb 5).trans rfl
      have dl := lt_of hpb
      generalize us[i] = uu at *
      obtain ⟨uk, ud⟩ := uu
      generalize cutP C 0 (fus us 0 i) = PS at *
      have HSN := Lib.hid hsn
      have HPB' := Lib.hid hpb
      have HROW := Lib.hid hrow
      obtain ⟨S, hSS⟩ : ∃ S : Nat → Prop, ∀ i, S i ↔ z.ownBlock = some i := ⟨_, fun _ => Iff.rfl⟩
      have hSb : ∀ i, i < w13.heap.size + 1 → ¬ S i := fun i hi h => by have := own_blk HROW.out ((hSS i).1 h); omega
      have n1 : ¬ S w.heap.size := hSb _ (by have := lt_of hP; omega)
      have n2 := hSb _ (Nat.lt_succ_of_lt (lt_of hQ))
      have n3 : ¬ S ug := hSb _ (by have := hE.size; omega)
      have n4 : ¬ S w13.heap.size := hSb _ (Nat.lt_succ_self _)
      have HSS := Lib.hid hSS
      have HCUT := Lib.hid (fun W => Cut15_c C HOK.out uk ud hu.1 hu.2 W)
      clear hsn hPr hQr hpb hrow e0' e1' hSb hSS hwr hu
      go_wp2_with fail
      have hC0 := afs_drew S wr
      refine pi_start (fun w' => ∃ x : AftS S wr, w' = x.w) [12] (by kernel_rfl) ?_
      refine pi_t 0 rfl (by kernel_rfl) (by kernel_rfl) (fun _ _ _ _ h => h) (fun K hK => ?_)
      go_big_quiet_op
      refine hK _ ?_
      clear hK K
      refine pi_t 3 rfl (by kernel_rfl) (by kernel_rfl) (fun _ _ _ _ h => h) (fun K hK => ?_)
      go_big_quiet_op
      refine hK _ ?_
      clear hK K
      refine pi_t 5 rfl (by kernel_rfl) (by kernel_rfl) (fun _ _ _ _ h => h) (fun K hK => ?_)
      go_big_quiet_op
      refine hK _ ?_
      clear hK K
      refine pi_c 1 (by assumption) rfl (by kernel_rfl) (by kernel_rfl) (fun _ _ _ _ h => h) (fun K hK => ?_)
      go_big_quiet_op
      refine hK _ ?_
      clear hK K
      refine pi_c 2 (by assumption) rfl (by kernel_rfl) (by kernel_rfl) (fun _ _ _ _ h => h) (fun K hK => ?_)
      go_big_quiet_op
      refine hK _ ?_
      clear hK K
      refine pi_c 4 (by assumption) rfl (by kernel_rfl) (by kernel_rfl) (fun _ _ _ _ h => h) (fun K hK => ?_)
      go_big_quiet_op
      refine hK _ ?_
      clear hK K
      refine pi_t 6 rfl (by kernel_rfl) (by kernel_rfl) (fun _ _ _ _ h => h) (fun K hK => ?_)
      go_big_quiet_op
      refine hK _ ?_
      clear hK K
      refine pi_c 7 (by assumption) rfl (by kernel_rfl) (by kernel_rfl) (fun _ _ _ _ h => h) (fun K hK => ?_)
      go_big_quiet_op
      refine hK _ ?_
      clear hK K
      refine pi_l 8 rfl (by kernel_rfl) (fun K hK => ?_)
      go_wp2_with (go_at_call 68; refine Calls.mono (HCUT.out _) ?_; rintro e wx ⟨rfl, hx3⟩)
      refine hK _ _ (fun _ h => afs_step h hx3) ?_
      clear hK K
      refine pi_l 9 rfl (by kernel_rfl) (fun K hK => ?_)
      go_wp2
      refine hK _ _ (fun _ h => afs_step h (Ext.alloc' _ _)) ?_
      clear hK K
      have hEx : Ext wr wx := Ext.trans' (Below.drew (Ext.refl wr)) hx3
      refine pi_l 10 rfl (by kernel_rfl) (fun K hK => ?_)
      obtain ⟨i0, z0, hi0, hz0, hz1, hz2, hz3⟩ := info_upd
      have hrx : wx.ownsRow (w13.heap.size + 1) 60 2 z PS.length (updV PS) := own_ext HROW.out hEx
      go_wp2_with (at_builtin; refine wpList_appu wx (cutK C 0 uk, cutD C.mode ud) PS z (w13.heap.size + 1) 60 60 hrx 56 rfl _ _ rfl i0 z0 hi0 hz0 hz1 hz2 hz3 Tryz.underlying56 rfl rfl ?a1 ?a2 ?_)
      case a1 => omega
      case a2 => have := hEx.size; omega
      intro z' w4 hr4 hg4 hd4
      obtain ⟨zp, zc, rfl⟩ := own_sl hr4
      have hb4 := (grown_old hg4 (j := w13.heap.size) (Nat.lt_of_lt_of_le dl hEx.size) (fun e => by have := own_blk hrx e.symm; omega)).trans (hEx.keep HPB'.out)
      have hE4 : Ext w13 w4 := ext_grown (hEr.trans' hEx) hg4 (fun k hk => by have := own_blk hrx hk; omega)
      have p6' := (cell_of hb4 5).trans rfl
      have f6' := frozen_of hb4 5
      have HR4 := Lib.hid hr4
      have HB4 := Lib.hid hb4
      have hm4 : Mod S wr w4 := mod_grown (hEx.mod _) hg4 (fun i hi => (HSS.out i).2 hi)
      clear hg4 hd4 hr4 hb4 hrx
      go_wp2
      refine hK _ _ (fun _ _ => ⟨⟨w4, hm4⟩, rfl⟩) ?_
      clear hK K
      refine pi_t 11 rfl (by kernel_rfl) (by kernel_rfl) (fun _ _ _ _ h => h) (fun K hK => ?_)
      go_big_quiet_op
      refine hK _ ?_
      clear hK K
      refine pi_l 12 rfl (by kernel_rfl) (fun K hK => ?_)
      go_wp2
      refine hK _ _ (by simp) ?_
      clear hK K
      refine pi_end (by kernel_rfl) ?_
      go_wp2_with fail
      go_roundw
      case rel =>
        refine ⟨i + 1, _, by omega, by omega, by go_num, hE4.setR (Nat.le_refl _) _, setCell_same HB4.out 5 _, ?_⟩
        rw [HSN.out]
        have := own_setc HR4.out (b := w13.heap.size) (by omega) 5 (.slice zp (PS.length + 1) zc)
        rwa [List.length_append]
      case measure => simp [intOf]; omega
    · have hfe := fus_end us (i := 0) (j := 60) (k := i) (by omega) (by omega) (.inr ⟨hi60, hil⟩) hgo
      rw [hfe] at hrow
      have hUz := UpsAt.of_row hrow
      have hPl : (cutP C 0 (fus us 0 60)).length ≤ 60 := by rw [cutP_len]; exact fus_len us 0 60
      obtain ⟨zp, zc, rfl⟩ := own_sl hrow
      have HUZ := Lib.hid hUz
      replace hU := hEr.keep hU
      replace hP := hPr
      replace hQ := hQr
      replace K1 := Lib.hid (K1.out.ext hEr)
      replace K2 := Lib.hid (K2.out.ext hEr)
      replace ZZ := Lib.hid (And.intro ZZ.out hEr.size)
      replace hE := hE.trans' hEr
      have p0 := (cell_of hPr 5).trans rfl
      have pl := lt_of hPr
      have d0 := (cell_of hpb 0).trans rfl
      have d1 := (cell_of hpb 1).trans rfl
      have d2 := (cell_of hpb 2).trans rfl
      have d3 := (cell_of hpb 3).trans rfl
      have d4 := (cell_of hpb 4).trans rfl
      have d5 := (cell_of hpb 5).trans rfl
      have dl := lt_of hpb
      have hgo' : ¬ (i < us.length) ∨ ¬ (i < 60) := by omega
      clear hrow hUz hfe hPr hQr hEr hpb hgo
      go_upto_region 7 with (fail)
      go_cut [49] (fun s49 wx => s49 = .bool false ∧ wx = wr)
      case first =>
        by_cases hgl : i < us.length
        · have hg6 : ¬ i < 60 := by omega
          go_wp2_with fail
          go_meet
          exact ⟨by first | rfl | exact congrArg Value.bool (decide_eq_false (by omega)), rfl⟩
        · first
            | (go_wp2_with fail
               go_meet
               exact ⟨rfl, rfl⟩)
      case rest =>
        obtain ⟨rfl, rfl⟩ := hcut
        rename World => wr
        clear hgo'
        go_wp2_with fail
        refine Calls.mono (HFL.out (cutP C 0 (fus us 0 60)) (cutP_okB C HOK.out _) _ _ HUZ.out (by omega)) ?_
        rintro e w31 ⟨s3, g3, L3, rfl, hKn, _, _, hFn, hxn⟩
        rw [HBTL.out] at hKn hFn
        have I3 := Lib.hid (hKn.kin hFn)
        have hxm : Ext w31 (w31.alloc (.cells #[.int .i64 (lin C).bits, .int .i64 (lin C).rows, .int .i64 (lin C).width, .int .i64 (lin C).mode, .int .u64 (lin C).seed] 24)) := Ext.alloc' _ _
        go_upto_region 11 with (fail)
        first
          | generalize w31.alloc (.cells #[.int .i64 (lin C).bits, .int .i64 (lin C).rows, .int .i64 (lin C).width, .int .i64 (lin C).mode, .int .u64 (lin C).seed] 24) = w32 at *
          | fail "alloc"
        have hsn := hxn.size
        have hsm := hxm.size
        have hxx := hxn.trans' hxm
        have z3 := Lib.hid (And.intro hsn hsm)
        clear p0 pl d0 d1 d2 d3 d4 d5 dl
        replace K1 := Lib.hid (K1.out.ext hxx)
        replace K2 := Lib.hid (K2.out.ext hxx)
        replace hP := hxx.keep hP
        replace hQ := hxx.keep hQ
        replace hU := hxx.keep hU
        replace hE := hE.trans' hxx
        have K3 := Lib.hid (hKn.ext hxm)
        clear hKn hFn hxn hxm hxx hsn hsm
        have hall : ∀ n, n ≤ B → allI (plusL (feedT C false (fus us 0 k) n) (feedT C false (fus us k 60) n)) := fun n _ => (plusL_bnd (feedT_bnd C false (fus us 0 k) n) (feedT_bnd C false (fus us k 60) n) (by have := fus_len us 0 k; have := fus_len us k 60; omega)).allI (by have := fus_len us 0 k; have := fus_len us k 60; omega)
        have HALL := Lib.hid hall
        replace ZZ := Lib.hid (And.intro ZZ.out z3.out)
        clear hall z3
        go_wp2_with fail
        refine Calls.mono (KMerge_c s1 g1 s2 g2 C B L1 L2 _ _ _ K1.out K2.out (fun h => absurd h (by decide))) ?_
        intro e w33 hjn
        obtain ⟨rfl, hKn, hMn⟩ := kj_ok hjn HALL.out
        replace K2 := Lib.hid (K2.out.part K1.out hMn I2.out I1.out (by have := ZZ.out; omega))
        replace K3 := Lib.hid (K3.out.part K1.out hMn I3.out I1.out (by have := ZZ.out; omega))
        replace hP := K1.out.blk hMn hP (by decide)
        replace hQ := K1.out.blk hMn hQ (by decide)
        replace hU := K1.out.blk hMn hU (by decide)
        replace hE := KAt.extm (s := 0) (g := 0) (C := C) (ls := fun _ => []) hE hMn I1.out (by have := ZZ.out; omega)
        replace K1 := Lib.hid hKn
        clear hjn hKn hMn
        obtain ⟨hl1, hl2⟩ := HLA.out
        have hbb := HB.out
        have hb1 := HOK.out.b1
        have hb2 := HOK.out.b2
        have hkp := keys_bd C HOK.out 0 (Int.le_refl 0)
        have c0 := (cell_of hQ 0).trans rfl
        have c1 := (cell_of hQ 1).trans rfl
        have c2 := (cell_of hQ 2).trans rfl
        have c3 := (cell_of hQ 3).trans rfl
        have c4 := (cell_of hQ 4).trans rfl
        have cl := lt_of hQ
        have u0 := (cell_of hU 0).trans rfl
        have u1 := (cell_of hU 1).trans rfl
        have ul := lt_of hU
        have k0 := Int.tmod_nonneg (C.bits + 1) hl1
        have k1 := Int.tmod_lt_of_pos la (show 0 < C.bits + 1 by omega)
        obtain ⟨n, hn⟩ : ∃ n : Nat, la.tmod (C.bits + 1) = n := ⟨_, (Int.toNat_of_nonneg k0).symm⟩
        have hnB : n ≤ B := by omega
        have hnb : (n : Int) ≤ C.bits := by omega
        have hnn : n ≤ 59 := by omega
        clear hbb
        have hz1 : (C.bits + 1 == 0) = false := by simp; omega
        have HN := Lib.hid hn
        go_upto_region 13 with (fail)
        go_cut [16] (fun s16 wx => s16 = .int .i64 n ∧ wx = w33)
        case first =>
          go_wp2
          go_meet
          exact ⟨by first | rfl | rw [HN.out], rfl⟩
        case rest =>
          obtain ⟨rfl, rfl⟩ := hcut
          rename World => w33
          obtain ⟨hy1, hy2⟩ := HKEY.out
          have hm0 : 0 ≤ key % keys C 0 := Int.emod_nonneg _ (by omega)
          have hm1 : key % keys C 0 < keys C 0 := Int.emod_lt_of_pos _ (by omega)
          have hj0 : 0 ≤ key % keys C 0 / 2 ^ n := sh_nn hm0 n
          have hj1 : key % keys C 0 / 2 ^ n < keys C n := sh_lt HOK.out hnb hm0 hm1
          have hkn := keys_bd C HOK.out n (Int.natCast_nonneg n)
          have hkz : (keys C 0 == 0) = false := by simp; omega
          have HKY := Lib.hid (fun W => KeysR_c C HOK.out 0 (Int.le_refl 0) (by omega) W)
          clear hz1 hn k0 k1 hl1 hl2
          go_upto_region 14 with (fail)
          go_cut [17] (fun s17 wx => ∃ (pb : Nat) (j : Int), 0 ≤ j ∧ j < keys C n ∧ s17 = .pointer (some ⟨pb, 0, none⟩) ∧ wx.heap[pb]? = some (.cells #[.int .i64 n, .int .u64 j] 39 (0, 0)) ∧ Ext w33 wx ∧ w33.heap.size ≤ pb)
          case first =>
            have hC0 := af_drew w33
            refine pi_start (fun w' => ∃ x : After w33, w' = x.w) [11] (by kernel_rfl) ?_
            refine pi_t 0 rfl (by kernel_rfl) (by kernel_rfl) (fun _ _ _ _ h => h) (fun K hK => ?_)
            go_big_quiet_op
            refine hK _ ?_
            clear hK K
            refine pi_t 1 rfl (by kernel_rfl) (by kernel_rfl) (fun _ _ _ _ h => h) (fun K hK => ?_)
            go_big_quiet_op
            refine hK _ ?_
            clear hK K
            refine pi_t 6 rfl (by kernel_rfl) (by kernel_rfl) (fun _ _ _ _ h => h) (fun K hK => ?_)
            go_big_quiet_op
            refine hK _ ?_
            clear hK K
            refine pi_t 7 rfl (by kernel_rfl) (by kernel_rfl) (fun _ _ _ _ h => h) (fun K hK => ?_)
            go_big_quiet_op
            refine hK _ ?_
            clear hK K
            refine pi_c 2 (by assumption) rfl (by kernel_rfl) (by kernel_rfl) (fun _ _ _ _ h => h) (fun K hK => ?_)
            go_big_quiet_op
            refine hK _ ?_
            clear hK K
            refine pi_c 3 (by assumption) rfl (by kernel_rfl) (by kernel_rfl) (fun _ _ _ _ h => h) (fun K hK => ?_)
            go_big_quiet_op
            refine hK _ ?_
            clear hK K
            refine pi_b 4 10 rfl rfl (by kernel_rfl) (fun K hK => ?_) (fun K hK => ?_)
            · go_wp2_with (go_at_call 85; refine Calls.mono (HKY.out _) ?_; rintro e wt ⟨rfl, hxt⟩)
              refine hK _ _ (fun _ h => af_step h hxt) ?_
              clear hK K
              have hEt : Ext w33 wt := Ext.trans' (Below.drew (Ext.refl w33)) hxt
              refine pi_t 5 rfl (by kernel_rfl) (by kernel_rfl) (fun _ _ _ _ h => h) (fun K hK => ?_)
              go_big_quiet_op
              refine hK _ ?_
              clear hK K
              refine pi_t 8 rfl (by kernel_rfl) (by kernel_rfl) (fun _ _ _ _ h => h) (fun K hK => ?_)
              go_big_quiet_op
              refine hK _ ?_
              clear hK K
              refine pi_t 9 rfl (by kernel_rfl) (by kernel_rfl) (fun _ _ _ _ h => h) (fun K hK => ?_)
              go_big_quiet_op
              refine hK _ ?_
              clear hK K
              refine pi_l 10 rfl (by kernel_rfl) (fun K hK => ?_)
              go_wp2
              refine hK _ _ (fun _ h => af_step h (Ext.alloc' _ _)) ?_
              clear hK K
              refine pi_l 11 rfl (by kernel_rfl) (fun K hK => ?_)
              go_wp2
              have hsz := hEt.size
              refine hK _ _ (by simp) ?_
              clear hK K
              refine pi_end (by kernel_rfl) ?_
              go_wp2_with fail
              go_meet
              exact ⟨_, _, hj0, hj1, rfl, heap_at _ _ rfl, hEt.trans' (Ext.alloc' _ _), hsz⟩
            · go_wp2
              refine hK _ _ (fun _ h => af_step h (Ext.alloc' _ _)) ?_
              clear hK K
              refine pi_l 4 rfl (by kernel_rfl) (fun K hK => ?_)
              go_wp2_with (go_at_call 85; refine Calls.mono (HKY.out _) ?_; rintro e wt ⟨rfl, hxt⟩)
              refine hK _ _ (fun _ h => af_step h hxt) ?_
              clear hK K
              have hEt : Ext w33 wt := ((show Ext w33 w33.drew from Below.drew (Ext.refl w33)).allocR _).trans' hxt
              have hbx := hxt.keep (heap_at _ _ rfl)
              have f0 := frozen_of hbx 0
              have f1 := frozen_of hbx 1
              have p0 := (cell_of hbx 0).trans rfl
              have p1 := (cell_of hbx 1).trans rfl
              have HBX := Lib.hid hbx
              clear hbx
              refine pi_t 5 rfl (by kernel_rfl) (by kernel_rfl) (fun _ _ _ _ h => h) (fun K hK => ?_)
              go_big_quiet_op
              refine hK _ ?_
              clear hK K
              refine pi_t 8 rfl (by kernel_rfl) (by kernel_rfl) (fun _ _ _ _ h => h) (fun K hK => ?_)
              go_big_quiet_op
              refine hK _ ?_
              clear hK K
              refine pi_t 9 rfl (by kernel_rfl) (by kernel_rfl) (fun _ _ _ _ h => h) (fun K hK => ?_)
              go_big_quiet_op
              refine hK _ ?_
              clear hK K
              refine pi_l 11 rfl (by kernel_rfl) (fun K hK => ?_)
              go_wp2
              refine hK _ _ (by simp) ?_
              clear hK K
              refine pi_end (by kernel_rfl) ?_
              go_wp2_with fail
              go_meet
              exact ⟨_, _, hj0, hj1, rfl, set2 HBX.out _ _, (hEt.setR (Nat.le_refl _) _).setR (Nat.le_refl _) _, Nat.le_refl _⟩
          case rest =>
            obtain ⟨pb, jx, hx0, hx1, rfl, hS, hxn, hpb⟩ := hcut
            rename World => w34
            clear HKY hj0 hj1 hm0 hm1 hkz hy1 hy2
            clear c0 c1 c2 c3 c4 cl
            clear u0 u1 ul
            have hP4 := hxn.keep hP
            have hQ4 := hxn.keep hQ
            have hU4 := hxn.keep hU
            have hE4 := hE.trans' hxn
            have p0 := (cell_of hP4 0).trans rfl
            have p1 := (cell_of hP4 1).trans rfl
            have p2 := (cell_of hP4 2).trans rfl
            have p3 := (cell_of hP4 3).trans rfl
            have p4 := (cell_of hP4 4).trans rfl
            have p5 := (cell_of hP4 5).trans rfl
            have pl := lt_of hP4
            have u0 := (cell_of hU4 0).trans rfl
            have u1 := (cell_of hU4 1).trans rfl
            have ul := lt_of hU4
            go_upto_region 15 with (fail)
            go_cut [112] (fun s112 wx => ∃ bb : Bool, s112 = .bool bb ∧ (bb = true → 0 < us.length) ∧ wx = w34)
            case first =>
              by_cases hlen : 0 < us.length
              · by_cases hev : key % 2 = 0
                · have hev' : (key.tmod 2 == 0) = true := by rw [Int.tmod_eq_emod_of_nonneg HKEY.out.1]; simpa using hev
                  clear hev
                  go_wp2_with fail
                  go_meet
                  exact ⟨_, rfl, fun _ => hlen, rfl⟩
                · have hev' : (key.tmod 2 == 0) = false := by rw [Int.tmod_eq_emod_of_nonneg HKEY.out.1]; simpa using hev
                  clear hev
                  go_wp2_with fail
                  go_meet
                  exact ⟨_, rfl, fun _ => hlen, rfl⟩
              · first
                  | (exfalso; omega)
                  | (go_wp2_with fail
                     go_meet
                     exact ⟨false, rfl, (by simp), rfl⟩)
            case rest =>
              obtain ⟨bb, rfl, hbb2, rfl⟩ := hcut
              rename World => w34
              go_upto_if 112 with (fail)
              go_cut [] (fun wx => ∃ j2 : Int, 0 ≤ j2 ∧ j2 < keys C n ∧ wx.heap[pb]? = some (.cells #[.int .i64 n, .int .u64 j2] 39 (0, 0)) ∧ Ext w33 wx)
              case first =>
                cases bb
                · go_wp2_with fail
                  go_meet
                  exact ⟨jx, hx0, hx1, hS, hxn⟩
                · have hlen := hbb2 rfl
                  obtain ⟨ug, off, rfl, hul0, d0, d1⟩ := (HV.out.ext hE4).one hlen
                  have hu := hus _ (List.getElem_mem hlen)
                  generalize us[0] = uu at *
                  obtain ⟨uk, ud⟩ := uu
                  have hkb := cutK_bd C HOK.out 0 uk (Int.le_refl 0)
                  have q0 := sh_nn hkb.1 n
                  have q1 := sh_lt HOK.out hnb hkb.1 hkb.2
                  have HCUT := Lib.hid (fun W' => Cut15_c C HOK.out uk ud hu.1 hu.2 W')
                  unfold sh at q0 q1
                  generalize cutK C 0 uk = kk at *
                  generalize cutD C.mode ud = dd at *
                  have f1 := frozen_of hS 1
                  have e1 := (cell_of hS 1).trans rfl
                  have e0 := lt_of hS
                  simp only [Nat.zero_mul, Nat.add_zero] at d0 d1
                  have c0 := (cell_of hQ4 0).trans rfl
                  have c1 := (cell_of hQ4 1).trans rfl
                  have c2 := (cell_of hQ4 2).trans rfl
                  have c3 := (cell_of hQ4 3).trans rfl
                  have c4 := (cell_of hQ4 4).trans rfl
                  have cl := lt_of hQ4
                  have hfd : ∀ w : World, (Instr.field 60 (.agg #[.int .u64 kk, .int .i64 dd]) 0).run Tryz.prog w = .ok (.int .u64 kk) w := fun _ => by kernel_rfl
                  go_wp2_with fail
                  refine wp_region_after_tail 11 (by kernel_rfl) (by kernel_rfl) ?_
                  simp only [List.take_succ_cons, List.take_zero, List.drop_succ_cons, List.drop_zero]
                  repeat (go_big_quiet_step ((go_at_call 68; with_reducible exact quiet_after (HCUT.out _))))
                  refine wpQuiet_nil ?_
                  rintro _ ⟨xx, rfl⟩
                  obtain ⟨w6, hb6⟩ := xx
                  try dsimp only
                  have e6 := hb6.keep hS
                  have f6 := frozen_of e6 1
                  have e1' := (cell_of e6 1).trans rfl
                  have l6 := lt_of e6
                  go_wp2
                  go_meet
                  exact ⟨kk / 2 ^ n, q0, q1, by rw [setCell_same e6]; rfl, (hxn.trans' hb6).setR (p := ⟨pb, 1, none⟩) hpb _⟩
              case rest =>
                obtain ⟨j2, hj20, hj21, hS2, hxx⟩ := hcut
                rename World => w35
                clear p0 p1 p2 p3 p4 p5 pl u0 u1 ul hS hP4 hQ4 hU4 hE4 hxn hbb2 hx0 hx1
                have hjU : U64 j2 := key_u64 hj20 hj21 hkn.2
                replace K1 := Lib.hid (K1.out.ext hxx)
                replace K2 := Lib.hid (K2.out.ext hxx)
                replace K3 := Lib.hid (K3.out.ext hxx)
                replace hP := hxx.keep hP
                replace hQ := hxx.keep hQ
                replace hU := hxx.keep hU
                replace hE := hE.trans' hxx
                have y0 := (cell_of hS2 0).trans rfl
                have y1 := (cell_of hS2 1).trans rfl
                have yl := lt_of hS2
                clear hxx
                have hm3 : C.mode ≠ 3 := by rw [HCM.out]; decide
                go_wp2_with fail
                refine Calls.mono (KPoint_c s1 g1 C B L1 _ _ K1.out n hnB j2 hj20 hj21) ?_
                rintro e w36 ⟨pa, rfl, hpa, hxn⟩
                have HPA := Lib.hid hpa
                clear hpa
                clear y0 y1 yl
                replace K1 := Lib.hid (K1.out.ext hxn)
                replace K2 := Lib.hid (K2.out.ext hxn)
                replace K3 := Lib.hid (K3.out.ext hxn)
                replace hP := hxn.keep hP
                replace hQ := hxn.keep hQ
                replace hU := hxn.keep hU
                replace hS2 := hxn.keep hS2
                replace hE := hE.trans' hxn
                have y0 := (cell_of hS2 0).trans rfl
                have y1 := (cell_of hS2 1).trans rfl
                have yl := lt_of hS2
                clear hxn
                go_wp2_with fail
                refine Calls.mono (KPoint_c s3 g3 (lin C) B L3 _ _ K3.out n hnB j2 hj20 hj21) ?_
                rintro e w37 ⟨pz, rfl, hpz, hxn⟩
                have hlaw := mbounds_law HOK.out hnb HCM.out hus hk60 hj20 HPA.out hpz
                clear hpz HPA
                clear y0 y1 yl
                replace K1 := Lib.hid (K1.out.ext hxn)
                replace K2 := Lib.hid (K2.out.ext hxn)
                replace K3 := Lib.hid (K3.out.ext hxn)
                replace hP := hxn.keep hP
                replace hQ := hxn.keep hQ
                replace hU := hxn.keep hU
                replace hS2 := hxn.keep hS2
                replace hE := hE.trans' hxn
                have y0 := (cell_of hS2 0).trans rfl
                have y1 := (cell_of hS2 1).trans rfl
                have yl := lt_of hS2
                have p0 := (cell_of hP 0).trans rfl
                have p1 := (cell_of hP 1).trans rfl
                have p2 := (cell_of hP 2).trans rfl
                have p3 := (cell_of hP 3).trans rfl
                have p4 := (cell_of hP 4).trans rfl
                have p5 := (cell_of hP 5).trans rfl
                have pl := lt_of hP
                have c0 := (cell_of hQ 0).trans rfl
                have c1 := (cell_of hQ 1).trans rfl
                have c2 := (cell_of hQ 2).trans rfl
                have c3 := (cell_of hQ 3).trans rfl
                have c4 := (cell_of hQ 4).trans rfl
                have cl := lt_of hQ
                have HLAW := Lib.hid hlaw
                have HHS := Lib.hid (fun W (h : Ext w W) => Has15_c us hus _ C HOK.out n (Nat.le_trans hnn (by decide)) j2 hjU W (HV.out.ext h) hul)
                clear hxn hlaw
                generalize hasK C us 60 n j2 = hh at *
                go_wp2_with fail
                refine Calls.mono (HHS.out _ hE) ?_
                rintro e w38 ⟨rfl, hxn⟩
                obtain ⟨la1, la2⟩ := HLAW.out
                have KS := Lib.hid (KSubtract_mode s1 g1 s2 g2 C B L1 L2 _ _ _ (K1.out.ext hxn) (K2.out.ext hxn) HCM.out)
                replace hE := hE.trans' hxn
                clear hxn
                clear y0 y1 yl
                clear p0 p1 p2 p3 p4 p5 pl
                clear c0 c1 c2 c3 c4 cl
                have g1 : decide (hh ≤ pa) = true := decide_eq_true la1
                have g2 : decide (pa ≤ pz) = true := decide_eq_true la2
                go_wp2_with fail
                refine Calls.mono KS.out ?_
                rintro e w39 ⟨rfl, hxn⟩
                go_wp2
                go_ret
                exact ⟨rfl, hE.trans' hxn⟩
theorem MBoundsL_c (x : Cfg) (hx : x.Raw) (part : Int) (hpart : I64 part) (la key : Int) (hla : U64 la) (hkey : U64 key) (us : List (Int × Int)) (hus : UpsOk us) (v : Value) (w : World) (hv : UpsAt w v us) (hul : us.length ≤ 140737488355328) :
    Calls Tryz.prog 18 #[.agg #[.int .i64 x.bits, .int .i64 x.rows, .int .i64 x.width, .int .i64 x.mode, .int .u64 x.seed, v], .int .i64 part, .agg #[.int .u64 la, .int .u64 key]] w fun e w' => e = .returned (.bool true) ∧ Ext w w' := by
  have h1 := Int.emod_nonneg (part % 65536) (show (61 : Int) ≠ 0 by decide)
  have h2 := Int.emod_lt_of_pos (part % 65536) (show (0 : Int) < 61 by decide)
  obtain ⟨k, hk⟩ : ∃ k : Nat, part % 65536 % 61 = k := ⟨(part % 65536 % 61).toNat, by omega⟩
  exact MBounds_core x hx part k (by omega) (and16 part) hk ⟨by omega, by omega⟩ la key hla hkey us hus v w hv hul
end Go.Proofs.YtdenbmmbeeamcaaGreat

/- What an array of two numbers of 64 bits reads as. No condition. -/
namespace Go.Proofs.YtdenbmmbeeamcaaGreat
set_option linter.unusedVariables false
open Go.ChangeShapes Go.WideShapes Go.ChangeAt Go.RowKit Go.Deep
section
variable {H : Type} {enc : TypeId × Value → H} {w : World} {held : Bool}
set_option maxRecDepth 100000 in
theorem two64arg_of {r : Reach} {b0 : Nat} {v : Value} {d : DataW H} {p : List MemPlace} (hv : Value.okWide Tryz.prog w r b0 143 v) (h : DataW.Trod enc Tryz.prog w 0 (fun _ => true) held 143 v d p) :
    ∃ (a b : Int), U64 a ∧ U64 b ∧ v = .agg #[.int .u64 a, .int .u64 b] := by
  have hv' : ∃ cs, v = .agg cs ∧ cs.size = 2 := by
    simp only [Value.okWide, Tryz.underlying143] at hv
    obtain ⟨cs, h1, h2, _⟩ := hv
    exact ⟨cs, h1, h2.trans (by kernel_rfl)⟩
  obtain ⟨cs, rfl, hsz⟩ := hv'
  obtain ⟨fuel, hf⟩ := h
  obtain ⟨l⟩ := cs
  obtain ⟨xs, m, _, _, _, hl, hel⟩ := DataW.trod_array Tryz.underlying143 hf
  match l, hsz with
  | [c0, c1], _ =>
    match xs, hl with
    | [x0, x1], _ =>
      have hC : Tryz.prog.cellsOf 22 = 1 := by kernel_rfl
      have e0 : DataW.trod enc Tryz.prog w 0 (fun _ => true) held m 22 [c0] = some x0 := by have := hel 0 (by decide); rw [hC] at this; exact this
      have e1 : DataW.trod enc Tryz.prog w 0 (fun _ => true) held m 22 [c1] = some x1 := by have := hel 1 (by decide); rw [hC] at this; exact this
      obtain ⟨a0, h0, _, w0⟩ := DataW.trod_int Tryz.underlying22 e0
      obtain ⟨a1, h1, _, w1⟩ := DataW.trod_int Tryz.underlying22 e1
      simp only [List.cons.injEq, and_true] at h0 h1
      subst h0 h1
      exact ⟨a0, a1, wf_u64 w0, wf_u64 w1, rfl⟩
end
end Go.Proofs.YtdenbmmbeeamcaaGreat

/- MergeBounds: in the mode Conservative, behind any updates and a merge, no prefix is told less than it has, nor more than in the mode Linear behind the same. No condition: every input. -/
namespace Go.Proofs.YtdenbmmbeeamcaaGreat
set_option linter.unusedVariables false
open Go.ChangeShapes Go.WideShapes Go.ChangeAt Go.RowKit

set_option maxRecDepth 100000 in
theorem mergeBounds_lifted (os : Os) (started : os.Started) (H : Type) (enc : TypeId × Value → H) :
    ReturnsInHanded {} Tryz.checked os 18 .any (Rows.mergeBoundsSpec.pre6 enc Tryz.prog Tryz.f18 Rows.mergeBoundsRow.domain false) (Rows.mergeBoundsSpec.post enc Tryz.prog Tryz.f18 false true false false) := by
  refine returnsInHanded_of_change_sized (C := Tryz.checked) own started (by kernel_rfl) Tryz.func18
    (ChangeSpec.witness6 (enc := enc) (C := Tryz.checked) false ⟨#[], #[.agg #[.int .i64 0, .int .i64 0, .int .i64 0, .int .i64 0, .int .u64 0, .slice none 0 0], .int .i64 0, .agg #[.int .u64 0, .int .u64 0]], []⟩ 8 (by kernel_rfl) (by kernel_rfl) (by kernel_rfl) (by kernel_rfl)) ?_
  intro W base args ds gs before hval0 hW hcnd hsz0 _
  have hval : ∀ (j : Nat) t v, Tryz.f18.params[j]? = some t → args[j]? = some v → Value.okWide Tryz.prog W .any base t v := hval0
  have hW' := hW
  obtain ⟨p, q, hA0, hV, rfl, hfz, hnd⟩ := hW
  have hA : DataW.TrodAll enc Tryz.prog W 0 (fun _ => true) true Tryz.f18.params.toList args.toList ds p := hA0
  have hsz : (DataW.weightsEach Tryz.prog (Tryz.f18.params.toList ++ Rows.mergeBoundsSpec.plain.varTypes Tryz.prog) (ds ++ gs)).all (· ≤ reachBytes) = true := hsz0
  rw [Tryz.params18] at hA hval hsz
  obtain ⟨v0, vs0, d0, ds0, p0, q0, hargs, rfl, rfl, h0, r0⟩ := trodAll_cons hA
  obtain ⟨v1, vs1, d1, ds1, p1, q1, rfl, rfl, rfl, h1, r1⟩ := trodAll_cons r0
  obtain ⟨v2, vs2, d2, ds2, p2, q2, rfl, rfl, rfl, h2, r2⟩ := trodAll_cons r1
  obtain ⟨rfl, rfl, rfl⟩ := trodAll_nil r2
  obtain rfl : args = #[v0, v1, v2] := by cases args; simp_all
  obtain ⟨rfl, rfl⟩ := trodVars_none hV
  have k0 := h0
  have k1 := h1
  have k2 := h2
  have lt0 : ∀ x ∈ p0, x.block < W.heap.size := by obtain ⟨m, hm⟩ := k0; exact DataW.trod_lt m _ _ _ hm
  have lt1 : ∀ x ∈ p1, x.block < W.heap.size := by obtain ⟨m, hm⟩ := k1; exact DataW.trod_lt m _ _ _ hm
  have lt2 : ∀ x ∈ p2, x.block < W.heap.size := by obtain ⟨m, hm⟩ := k2; exact DataW.trod_lt m _ _ _ hm
  obtain ⟨x0, us0, u0, hx0, hus0, hat0, rfl, hr0⟩ := play20_of (hval 0 _ v0 rfl rfl) h0
  have hul0 := hr0 _ _ 0 hsz rfl rfl
  obtain ⟨n1, rfl, _, _, wf1⟩ := open_int Tryz.underlying3 (hval 1 _ v1 rfl rfl) h1
  have hn1 := wf_i64 wf1
  obtain ⟨n2, m2, hn2, hm2, rfl⟩ := two64arg_of (hval 2 _ v2 rfl rfl) h2
  clear hA0 hval0
  refine (MBoundsL_c x0 hx0 n1 hn1 n2 m2 hn2 hm2 us0 hus0 u0 W hat0 hul0).mono fun e W' ⟨he, bel⟩ => ?_
  subst he
  exact ⟨_, rfl, _, _, _, [], _, [], hW', trodAll_mk1 (shut_bool Tryz.underlying4 _), (trodAll_cons_mk (Below.trod laidOut (by kernel_rfl) (of_decide_eq_true (by kernel_rfl)) k0 bel lt0) (trodAll_cons_mk (Below.trod laidOut (by kernel_rfl) (of_decide_eq_true (by kernel_rfl)) k1 bel lt1) (trodAll_cons_mk (Below.trod laidOut (by kernel_rfl) (of_decide_eq_true (by kernel_rfl)) k2 bel lt2) trodAll_mk0))), rfl, bel.frame _, fun h => by cases h⟩
end Go.Proofs.YtdenbmmbeeamcaaGreat
