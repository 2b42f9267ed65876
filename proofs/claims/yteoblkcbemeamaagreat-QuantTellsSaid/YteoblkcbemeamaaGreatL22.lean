/- Part. No condition. -/
import Derived.Test.YteoblkcbemeamaaGreatL15
import Derived.Test.YteoblkcbemeamaaGreatL21
import Derived.Test.YteoblkcbemeamaaGreatL18
import Derived.Test.YteoblkcbemeamaaGreatL8
import Derived.Test.YteoblkcbemeamaaGreatL6

/- gaugerref02.Sum, walked. -/
namespace Go.Proofs.YteoblkcbemeamaaGreat
set_option linter.unusedVariables false
open Go.RowKit
theorem lsum_big {l : List Int} (h : ∀ x ∈ l, I64 x) (hl : l.length ≤ 1000000) : -730750818665451459101842416358141509827966271488 ≤ lsum l ∧ lsum l < 730750818665451459101842416358141509827966271488 := by
  have h2 := lsum_bd (l := l) (B := 9223372036854775808) (by omega) (fun x hx => by have h3 := h x hx; unfold I64 at h3; omega)
  omega
set_option maxRecDepth 20000 in
set_option maxHeartbeats 8000000 in
theorem RSum_c (l : List Int) (v : Value) (w : World) (h : IntsAt w v l) (hI : ∀ x ∈ l, I64 x) (hl : l.length ≤ 1000000) :
    Calls Tryz.prog 93 #[v] w fun e w' => e = .returned (.tuple #[.int .i64 (fitN (lsum l)), .bool (fitB (lsum l))]) ∧ Ext w w' := by
  obtain ⟨vp, vc, rfl⟩ := h.sl
  obtain ⟨n, hN⟩ : ∃ n, l.length = n := ⟨_, rfl⟩
  have HN := Lib.hid hN
  have H := Lib.hid h
  have HB := Lib.hid (lsum_big hI hl)
  rw [hN] at hl ⊢
  clear h hN
  go_enter Tryz.func93, Tryz.ntmps93
  go_wp2_with fail
  go_loopw [5] (fun u wr => ∃ (k : Nat) (s : Int), k ≤ n ∧ u = .int .i64 k ∧ s = lsum (l.take k) ∧ Ext w wr ∧ LongAt wr w.heap.size (dg s)) (fun u _ => n - (intOf u).toNat)
  case atStart =>
    refine ⟨0, 0, Nat.zero_le _, rfl, rfl, Ext.alloc' _ _, ?_⟩
    unfold LongAt
    rw [zlong]
    exact heap_at _ _ rfl
  case round =>
    obtain ⟨k, s, hk, rfl, hs, hx, hg⟩ := hrel
    have hg' := hg
    unfold LongAt at hg'
    rw [fill10] at hg'
    have x0 := (cell_of hg' 0).trans rfl
    have x1 := (cell_of hg' 1).trans rfl
    have x2 := (cell_of hg' 2).trans rfl
    have x3 := (cell_of hg' 3).trans rfl
    have x4 := (cell_of hg' 4).trans rfl
    have x5 := (cell_of hg' 5).trans rfl
    have x6 := (cell_of hg' 6).trans rfl
    have x7 := (cell_of hg' 7).trans rfl
    have x8 := (cell_of hg' 8).trans rfl
    have x9 := (cell_of hg' 9).trans rfl
    have l1 := lt_of hg'
    have HG1 := Lib.hid hg'
    have HS := Lib.hid hs
    clear hg hs
    by_cases hgo : k < n
    · obtain ⟨ga, oa, rfl, hga, d1⟩ := H.out.one (k := k) (by rw [HN.out]; exact hgo)
      have e1 := ((bcell hx).1 ga _ hga).trans d1
      have la : ga < wr.heap.size := Nat.lt_of_lt_of_le hga hx.size
      have ia := hI _ (getD_mem (l := l) (k := k) (by rw [HN.out]; exact hgo))
      have hsn : s + l.getD k 0 = lsum (l.take (k + 1)) := by rw [lsum_snoc (by rw [HN.out]; exact hgo), ← HS.out]
      have HSN := Lib.hid hsn
      have hP : ∀ w' : World, Calls Tryz.prog 98 #[.agg #[.int .i64 (dg s 0), .int .i64 (dg s 1), .int .i64 (dg s 2), .int .i64 (dg s 3), .int .i64 (dg s 4), .int .i64 (dg s 5), .int .i64 (dg s 6), .int .i64 (dg s 7), .int .i64 (dg s 8), .int .i64 (dg s 9)], longV (l.getD k 0)] w' fun e w'' => e = .returned (longV (s + l.getD k 0)) ∧ Ext w' w'' := fun w' => LPlus_c s (l.getD k 0) w'
      have HP := Lib.hid hP
      clear hsn hP d1 hg'
      generalize l.getD k 0 = x at *
      go_wp2_with fail
      refine wp_region_after_tail 7 (by kernel_rfl) (by kernel_rfl) ?_
      simp only [List.take_succ_cons, List.take_zero, List.drop_succ_cons, List.drop_zero]
      repeat (go_big_quiet_step ((first | (go_at_call 99; exact quiet_after (OfInt_c _ (by assumption) _)) | (go_at_call 98; exact quiet_after (HP.out _)))))
      refine wpQuiet_nil ?_
      rintro _ ⟨xx, rfl⟩
      obtain ⟨w4, hb4⟩ := xx
      try dsimp only
      have hq1 := hb4.keep HG1.out
      have hE4 := hx.trans' hb4
      have z0 := (cell_of hq1 0).trans rfl
      have f0 := frozen_of hq1 0
      have z1 := (cell_of hq1 1).trans rfl
      have f1 := frozen_of hq1 1
      have z2 := (cell_of hq1 2).trans rfl
      have f2 := frozen_of hq1 2
      have z3 := (cell_of hq1 3).trans rfl
      have f3 := frozen_of hq1 3
      have z4 := (cell_of hq1 4).trans rfl
      have f4 := frozen_of hq1 4
      have z5 := (cell_of hq1 5).trans rfl
      have f5 := frozen_of hq1 5
      have z6 := (cell_of hq1 6).trans rfl
      have f6 := frozen_of hq1 6
      have z7 := (cell_of hq1 7).trans rfl
      have f7 := frozen_of hq1 7
      have z8 := (cell_of hq1 8).trans rfl
      have f8 := frozen_of hq1 8
      have z9 := (cell_of hq1 9).trans rfl
      have f9 := frozen_of hq1 9
      have HQ1 := Lib.hid hq1
      have l4 := lt_of hq1
      clear hq1 x0 x1 x2 x3 x4 x5 x6 x7 x8 x9
      unfold longV longA
      go_upto_region 4 with (fail)
      refine fin10b (Φ := fun W' => Code.wp _ _ _ _ W') HQ1.out hE4 (Nat.le_refl _) (fun W' hW hEW hO => ?_)
      go_wp2_with fail
      go_roundw
      case rel => exact ⟨k + 1, s + x, by omega, by go_num, HSN.out, hEW, by unfold LongAt; rw [fill10]; exact hW⟩
      case measure => simp [intOf]; omega
    · obtain rfl : k = n := by omega
      have hst : s = lsum l := by rw [HS.out, ← HN.out, List.take_length]
      obtain ⟨fn, hfn⟩ : ∃ fn, fitN s = fn := ⟨_, rfl⟩
      obtain ⟨fb, hfb⟩ : ∃ fb, fitB s = fb := ⟨_, rfl⟩
      have hF : ∀ w' : World, Calls Tryz.prog 97 #[.agg #[.int .i64 (dg s 0), .int .i64 (dg s 1), .int .i64 (dg s 2), .int .i64 (dg s 3), .int .i64 (dg s 4), .int .i64 (dg s 5), .int .i64 (dg s 6), .int .i64 (dg s 7), .int .i64 (dg s 8), .int .i64 (dg s 9)]] w' fun e w'' => e = .returned (.tuple #[.int .i64 fn, .bool fb]) ∧ Ext w' w'' := fun w' => by
        have h := LInt_c s (by rw [hst]; exact HB.out.1) (by rw [hst]; exact HB.out.2) w'
        rw [hfn, hfb] at h
        exact h
      have HF := Lib.hid hF
      have HR := Lib.hid (And.intro hst (And.intro hfn hfb))
      clear hF hg' hst hfn hfb HS
      go_wp2_with fail
      refine Calls.mono (HF.out _) ?_
      rintro e w5 ⟨rfl, hx5⟩
      go_wp2
      go_ret2
      exact ⟨by rw [← HR.out.1, HR.out.2.1, HR.out.2.2]; rfl, hx.trans' hx5⟩
end Go.Proofs.YteoblkcbemeamaaGreat

/- gaugerref16: Parts, Range, walked. -/
namespace Go.Proofs.YteoblkcbemeamaaGreat
set_option linter.unusedVariables false
open Go.RowKit
def RPartsPost (w : World) (B : Nat) (pt : Nat → Int → Int) (lo hi : Int) (e : Ending) (w' : World) : Prop :=
  (hi < lo ∧ (∃ v, e = .returned (.tuple #[v, .int .i64 1]) ∧ w'.ownsRow w.heap.size 2 1 v 0 []) ∧ Ext w w') ∨
  ((lo ≤ hi ∧ 2 ^ B ≤ hi) ∧ (∃ v, e = .returned (.tuple #[v, .int .i64 2]) ∧ w'.ownsRow w.heap.size 2 1 v 0 []) ∧ Ext w w') ∨
  ((lo ≤ hi ∧ hi < 2 ^ B) ∧ ∃ v, e = .returned (.tuple #[v, .int .i64 0]) ∧ w'.ownsRow w.heap.size 2 1 v (cvV pt B lo hi).length (ints (cvV pt B lo hi)) ∧ Ext w w')
theorem cv_snoc {pt : Nat → Int → Int} {B : Nat} {lo hi : Int} {k : Nat} {ps : List (Nat × Int)} (hps : covL B 0 lo hi = ps) (hk : k < ps.length) {pre : List Int} (hp : pre = (cvV pt B lo hi).take k) :
    pre ++ [pt (ps.getD k (0, 0)).1 (ps.getD k (0, 0)).2] = (cvV pt B lo hi).take (k + 1) := by
  unfold cvV at hp ⊢
  rw [hps] at hp ⊢
  have hk2 : k < (ps.map fun p => pt p.1 p.2).length := by rw [List.length_map]; exact hk
  rw [List.take_succ_eq_append_getElem hk2, hp]
  congr 2
  rw [List.getElem_map]
  have e : ps.getD k (0, 0) = ps[k] := by simp [List.getD, List.getElem?_eq_getElem hk]
  rw [e]
theorem pcs_cells {w : World} {base : Nat} {p : Option Addr} {n c : Nat} {ps : List (Nat × Int)} (h : w.ownsRow base 39 2 (.slice p n c) n (pcV ps)) {k : Nat} (hk : k < ps.length) :
    ∃ g, p = some ⟨g, 0, none⟩ ∧ base ≤ g ∧ g < w.heap.size ∧ w.cell? ⟨g, k * 2, none⟩ = some (.int .i64 ((ps.getD k (0, 0)).1 : Int)) ∧ w.cell? ⟨g, k * 2 + 1, none⟩ = some (.int .u64 (ps.getD k (0, 0)).2) := by
  obtain ⟨h1, h2⟩ := h
  rw [pcV_len] at h1
  rcases h2 with ⟨_, h3⟩ | ⟨g, cap, cur, hv, hb, hh, hc, _, hs, ht⟩
  · omega
  · obtain ⟨rfl, _⟩ := Value.slice.inj hv
    obtain ⟨a1, a2⟩ := pcV_at hk
    rw [← ht] at a1 a2
    rw [List.getElem?_take_of_lt (by omega)] at a1 a2
    simp only [Array.getElem?_toList] at a1 a2
    refine ⟨g, rfl, hb, lt_of hh, ?_, ?_⟩
    · rw [cell_of hh]; exact a1
    · rw [cell_of hh]; exact a2
/-- The pieces' own block is still what it was. -/
def KeptP (w1 wr : World) (pp : Option Addr) (u : Value) : Prop := ∀ g, pp = some ⟨g, 0, none⟩ → wr.heap[g]? = w1.heap[g]? ∧ g < wr.heap.size ∧ u.ownBlock ≠ some g
set_option maxRecDepth 20000 in
set_option maxHeartbeats 8000000 in
theorem RParts_c (s t : Nat) (C : Cfg) (B : Nat) (L : Nat → RLev) (ls : Nat → List Int) (w : World) (h : RKAt w s t C B L ls) (pt : Nat → Int → Int) (hU : Uniq C B ls pt) (lo hi : Int) (hlo : U64 lo) (hhi : U64 hi) :
    Calls Tryz.prog 34 #[.pointer (some ⟨s, 0, none⟩), .int .u64 lo, .int .u64 hi] w (RPartsPost w B pt lo hi) := by
  have hB := h.hB
  have hb1 := h.ok.b1
  have hb2 := h.ok.b2
  obtain ⟨w0, hw0⟩ : ∃ w0, w.alloc (.cells #[] 2) = w0 := ⟨_, rfl⟩
  have ho0 : w0.ownsRow w.heap.size 2 1 (.slice (some ⟨w.heap.size, 0, none⟩) 0 0) ([] : List Int).length (ints []) := by rw [← hw0]; exact ⟨rfl, .inr ⟨w.heap.size, 0, #[], rfl, Nat.le_refl _, heap_at _ _ rfl, Nat.le_refl _, Nat.zero_le _, rfl, rfl⟩⟩
  have hE0 : Ext w w0 := by rw [← hw0]; exact Ext.alloc' _ _
  have hz0 : w0.heap.size = w.heap.size + 1 := by rw [← hw0]; exact size_alloc _ _
  have HO0 := Lib.hid ho0
  have HZ0 := Lib.hid hz0
  have H := Lib.hid h
  obtain ⟨hlo0, hlo1⟩ := hlo
  obtain ⟨hhi0, hhi1⟩ := hhi
  clear ho0 hz0 h
  by_cases h1 : hi < lo
  · go_enter Tryz.func34, Tryz.ntmps34
    go_upto_region 2 with (fail)
    try rw [hw0]
    go_wp2
    go_ret2
    exact .inl ⟨h1, ⟨_, rfl, HO0.out⟩, hE0⟩
  · have H1 := Lib.hid (show lo ≤ hi by omega)
    obtain ⟨cap, hex, hcap⟩ := (H.out.ext hE0).ex
    have c0 := (cell_of hex 0).trans (show _ = some (Value.int .i64 B) by rw [← hB]; rfl)
    have hls := lt_of hex
    have HCV := Lib.hid (RCover_c B (by omega) (by omega) lo hi ⟨hlo0, hlo1⟩ ⟨hhi0, hhi1⟩ w0)
    have HBB := Lib.hid (And.intro hb1 (And.intro hb2 hB))
    clear hex hb1 hb2 hB
    go_enter Tryz.func34, Tryz.ntmps34
    go_upto_region 2 with (fail)
    try rw [hw0]
    go_wp2_with fail
    refine Calls.mono HCV.out ?_
    rintro e w1 (⟨hc, v, rfl, hx⟩ | ⟨hc, v, rfl, ho, hx⟩)
    · have h2 : 2 ^ B ≤ hi := by have := H1.out; omega
      have H2 := Lib.hid h2
      have HX := Lib.hid hx
      clear h2 hc hx h1 c0 hls
      go_wp2
      go_ret2
      exact .inr (.inl ⟨⟨H1.out, H2.out⟩, ⟨_, rfl, own_keepB HO0.out (fun k hk => HX.out.block k (own_lt HO0.out hk))⟩, hE0.trans' HX.out⟩)
    · obtain ⟨ps, hps⟩ : ∃ ps, covL B 0 lo hi = ps := ⟨_, rfl⟩
      rw [hps] at ho
      have hbd := cov_bd B 0 lo hi hlo0 hc.1 hc.2
      have hlv := cov_lev B 0 lo hi
      have hlen := cov_len B 0 lo hi
      rw [hps] at hbd hlv hlen
      obtain ⟨pp, pc, rfl⟩ := own_sl ho
      have HO := Lib.hid ho
      have HBD := Lib.hid hbd
      have HLV := Lib.hid hlv
      have HLEN := Lib.hid hlen
      have HPS := Lib.hid hps
      have HC := Lib.hid hc
      have hx01 := hx
      have hE1 := hE0.trans' hx
      have hkp0 : KeptP w1 w1 pp (.slice (some ⟨w.heap.size, 0, none⟩) 0 0) := fun g hg => by
        subst hg
        have hb := own_blk HO.out (k := g) rfl
        exact ⟨rfl, own_lt HO.out rfl, fun e => by have h3 : w.heap.size = g := Option.some.inj e; have := HZ0.out; omega⟩
      have hor := own_keepB HO0.out (fun k hk => hx.block k (own_lt HO0.out hk))
      have HKP0 := Lib.hid hkp0
      have HOR := Lib.hid hor
      clear ho hbd hlv hlen hps hc hx hx01 hkp0 hor c0 hls
      generalize hnn : ps.length = np at *
      have HNP := Lib.hid hnn
      have hnp : np ≤ 200 := by have := HLEN.out; have := HBB.out.2.1; have := HBB.out.2.2; omega
      clear hnn
      go_wp2_with fail
      go_loopw [8, 11] (fun u8 u11 wr => ∃ (k : Nat) (pre : List Int), k ≤ np ∧ u11 = .int .i64 k ∧ pre.length = k ∧ pre = (cvV pt B lo hi).take k ∧ wr.ownsRow w.heap.size 2 1 u8 pre.length (ints pre) ∧ KeptP w1 wr pp u8 ∧ Ext w wr) (fun _ u11 _ => np - (intOf u11).toNat)
      case atStart => exact ⟨0, [], Nat.zero_le _, rfl, rfl, rfl, HOR.out, HKP0.out, hE1⟩
      case round =>
        clear hE1 HOR HKP0
        obtain ⟨k, pre, hk, rfl, hpl, hpre, hown, hkp, hE⟩ := hrel
        obtain ⟨pv, cv, rfl⟩ := own_sl hown
        have HPRE := Lib.hid hpre
        have HOWN := Lib.hid hown
        have HKP := Lib.hid hkp
        have HPL := Lib.hid hpl
        clear hpre hown hkp
        subst hpl
        by_cases hgo : pre.length < np
        · obtain ⟨g, rfl, hbg, hgl, d1', d2'⟩ := pcs_cells HO.out (k := pre.length) (by rw [HNP.out]; exact hgo)
          obtain ⟨hgk, hgs, hgn⟩ := HKP.out g rfl
          have d1 := (World.cell?_of_block (a := ⟨g, pre.length * 2, none⟩) hgk).trans d1'
          have d2 := (World.cell?_of_block (a := ⟨g, pre.length * 2 + 1, none⟩) hgk).trans d2'
          have hmem : ps.getD pre.length (0, 0) ∈ ps := by simp [List.getD, List.getElem?_eq_getElem (show pre.length < ps.length by rw [HNP.out]; exact hgo)]
          have hq1 := HBD.out _ hmem
          have hq2 := HLV.out _ hmem
          have hsn := cv_snoc HPS.out (k := pre.length) (by rw [HNP.out]; exact hgo) HPRE.out
          clear d1' d2' hmem
          generalize ps.getD pre.length (0, 0) = q at *
          obtain ⟨n, i⟩ := q
          have hn : n ≤ B := by have := hq2.2; simp only at this; omega
          have hkey : i < keys C n := by
            have h3 := hq1.2
            simp only at h3
            unfold keys
            rw [show (C.bits - (n : Int)).toNat = 0 + B - n by have := HBB.out.2.2; omega]
            exact h3
          have hi0 : 0 ≤ i := hq1.1
          have hi1 : i < 18446744073709551616 := by
            have := keys_bd C H.out.ok n (Int.natCast_nonneg n)
            omega
          have HSN := Lib.hid hsn
          have HGN := Lib.hid (And.intro hgk (And.intro hgs hgn))
          have hcall := RKPoint_c s t C B L ls n i (by unfold I64; have := HBB.out.2.1; have := HBB.out.2.2; omega) ⟨hi0, hi1⟩ wr (H.out.ext hE)
          have HCALL := Lib.hid hcall
          have HUN := Lib.hid (fun x (hx : lvPt C n (ls n) i x) => hU n i x hn hi0 hkey hx)
          clear hq1 hq2 hsn hgk hgn hcall
          go_wp2_with fail
          refine Calls.mono HCALL.out ?_
          rintro e w5 ⟨x, r, rfl, hp, hx5⟩
          have hxp : x = pt n i := by
            rcases hp with ⟨hbad, _⟩ | ⟨m, hm, _, hpa⟩
            · omega
            · obtain rfl : n = m := by omega
              rcases hpa with ⟨hbad, _⟩ | ⟨_, hl, _⟩
              · omega
              · exact HUN.out x hl
          rw [← hxp] at HSN
          have HX5 := Lib.hid hx5
          have ho5 := own_keepB HOWN.out (fun j hj => hx5.block j (own_lt HOWN.out hj))
          have HO5 := Lib.hid ho5
          have hE5 := hE.trans' hx5
          clear hp hxp hx5 ho5 HUN HCALL
          go_wp2_with (at_builtin; refine wpList_app1 w5 x pre _ w.heap.size 2 HO5.out 43 rfl _ _ rfl info_i64 Tryz.underlying43 (by rfl) (by rfl) ?a1 ?a2 ?_)
          case a1 => have := HPL.out; have := HLEN.out; have := HNP.out; have := HBB.out.2.1; have := HBB.out.2.2; omega
          case a2 => exact hE5.size
          intro v' w6 hw1 hw2 hw3
          have hE6 : Ext w w6 := ext_grown hE5 hw2 (fun j hj => own_blk HO5.out hj)
          have hkp6 : KeptP w1 w6 (some ⟨g, 0, none⟩) v' := fun g' hg' => by
            obtain rfl : g = g' := by have := Option.some.inj hg'; exact congrArg Addr.block this
            have hs5 := HX5.out.size
            have hgs := HGN.out.2.1
            refine ⟨(grown_old hw2 (by omega) (fun e => HGN.out.2.2 e.symm)).trans ((HX5.out.block g hgs).trans HGN.out.1), ?_, fun e => ?_⟩
            · have h6 := hw2.size
              rw [size_alloc] at h6
              omega
            · rcases hw3 with h3 | h3
              · exact HGN.out.2.2 (by rw [← h3]; exact e)
              · rw [h3] at e; have h7 : w5.heap.size + 1 = g := Option.some.inj e; omega
          obtain ⟨pv2, cv2, rfl⟩ := own_sl hw1
          have HW1 := Lib.hid hw1
          have HKP6 := Lib.hid hkp6
          clear hw1 hw2 hw3 hkp6
          go_wp2
          go_roundw
          case rel => exact ⟨pre.length + 1, pre ++ [x], by omega, by go_num, by rw [List.length_append]; rfl, HSN.out, by rw [List.length_append]; exact HW1.out, HKP6.out, hE6⟩
          case measure => simp [intOf]; omega
        · obtain hkn : pre.length = np := by omega
          have hfull : pre = cvV pt B lo hi := by
            rw [HPRE.out]
            refine List.take_of_length_le ?_
            unfold cvV
            rw [List.length_map, HPS.out, HNP.out, hkn]
            exact Nat.le_refl _
          have HFULL := Lib.hid hfull
          clear hfull
          go_wp2
          go_ret2
          exact .inr (.inr ⟨HC.out, _, rfl, by
            rw [← HFULL.out]
            have h := HOWN.out
            rw [hkn] at h ⊢
            exact h, hE⟩)
set_option maxRecDepth 20000 in
set_option maxHeartbeats 4000000 in
theorem RRange_c (s t : Nat) (C : Cfg) (B : Nat) (L : Nat → RLev) (ls : Nat → List Int) (w : World) (h : RKAt w s t C B L ls) (pt : Nat → Int → Int) (hU : Uniq C B ls pt) (hI : ∀ n i, I64 (pt n i)) (lo hi : Int) (hlo : U64 lo) (hhi : U64 hi) :
    Calls Tryz.prog 36 #[.pointer (some ⟨s, 0, none⟩), .int .u64 lo, .int .u64 hi] w (RangePost w B pt lo hi) := by
  have hlen : (cvV pt B lo hi).length ≤ 1000000 := by
    unfold cvV
    rw [List.length_map]
    have := cov_len B 0 lo hi
    have h2 := h.ok.b2
    have h3 := h.hB
    omega
  have hall : ∀ x ∈ cvV pt B lo hi, I64 x := by
    intro x hx
    unfold cvV at hx
    simp only [List.mem_map] at hx
    obtain ⟨p, _, rfl⟩ := hx
    exact hI _ _
  have HP := Lib.hid (RParts_c s t C B L ls w h pt hU lo hi hlo hhi)
  have HL := Lib.hid hlen
  have HA := Lib.hid hall
  clear h hlen hall
  go_enter Tryz.func36, Tryz.ntmps36
  go_wp2_with fail
  refine Calls.mono HP.out ?_
  rintro e w1 (⟨hc, ⟨v, rfl, _⟩, hx⟩ | ⟨hc, ⟨v, rfl, _⟩, hx⟩ | ⟨hc, v, rfl, ho, hx⟩)
  · have HC := Lib.hid hc
    clear hc
    go_wp2_with fail
    go_ret2
    exact ⟨.inl ⟨HC.out, rfl⟩, hx⟩
  · have HC := Lib.hid hc
    clear hc
    go_wp2_with fail
    go_ret2
    exact ⟨.inr (.inl ⟨HC.out, rfl⟩), hx⟩
  · have HC := Lib.hid hc
    have HI := Lib.hid (IntsAt.of_row ho)
    clear hc ho
    go_wp2_with fail
    refine Calls.mono (RSum_c _ v w1 HI.out HA.out HL.out) ?_
    rintro e w2 ⟨rfl, hx2⟩
    by_cases hT : I64 (lsum (cvV pt B lo hi))
    · rw [fitB_yes hT, fitN_yes hT]
      go_wp2_with fail
      go_ret2
      exact ⟨.inr (.inr (.inl ⟨HC.out, hT, rfl⟩)), hx.trans' hx2⟩
    · rw [fitB_no hT]
      go_wp2_with fail
      go_ret2
      exact ⟨.inr (.inr (.inr ⟨HC.out, hT, rfl⟩)), hx.trans' hx2⟩
end Go.Proofs.YteoblkcbemeamaaGreat

/- A stack of the program and one of the references, side by side. -/
namespace Go.Proofs.YteoblkcbemeamaaGreat
set_option linter.unusedVariables false
open Go.RowKit
/-- What an update leaves. -/
def nextK (C : Cfg) (B : Nat) (ls : Nat → List Int) (key d : Int) : Nat → List Int := bif decide (errK C B ls key d = 0) then updK C ls key d else ls
/-- A stack, and one of the references. -/
def KP (N : Nat) (w : World) (C : Cfg) (B s r : Nat) (ls ls' : Nat → List Int) : Prop :=
  ∃ g L t L2 z, KAt w s g C B L ls ∧ KLow z s g B L ∧ KFresh N B L ∧ RKAt w r t C B L2 ls' ∧ (∀ k, rkF r t C B L2 k → z ≤ k) ∧ N ≤ z ∧ z ≤ w.heap.size
noncomputable def ptU (C : Cfg) (ls : Nat → List Int) (n : Nat) (i : Int) : Int := by classical exact if h : ∃ x, I64 x ∧ lvPt C n (ls n) i x then h.choose else 0
theorem ptU_I (C : Cfg) (ls : Nat → List Int) (n : Nat) (i : Int) : I64 (ptU C ls n i) := by
  unfold ptU
  split
  · rename_i h; exact h.choose_spec.1
  · unfold I64; omega
def partR (B : Nat) (pt : Nat → Int → Int) (lo hi : Int) : List Int × Int := if hi < lo then ([], 1) else if 2 ^ B ≤ hi then ([], 2) else (cvV pt B lo hi, 0)
def rangR (B : Nat) (pt : Nat → Int → Int) (lo hi : Int) : Int × Int := if hi < lo then (0, 1) else if 2 ^ B ≤ hi then (0, 2) else (fitN (lsum (cvV pt B lo hi)), bif fitB (lsum (cvV pt B lo hi)) then 0 else 4)
theorem rang_of {w w' : World} {B : Nat} {pt : Nat → Int → Int} {lo hi : Int} {e : Ending} (h : RangePost w B pt lo hi e w') : e = .returned (.tuple #[.int .i64 (rangR B pt lo hi).1, .int .i64 (rangR B pt lo hi).2]) ∧ Ext w w' := by
  obtain ⟨h, hE⟩ := h
  refine ⟨?_, hE⟩
  unfold rangR
  rcases h with ⟨h1, rfl⟩ | ⟨⟨h1, h2⟩, rfl⟩ | ⟨⟨h1, h2⟩, h3, rfl⟩ | ⟨⟨h1, h2⟩, h3, rfl⟩
  · rw [if_pos h1]
  · rw [if_neg (by omega), if_pos h2]
  · rw [if_neg (by omega), if_neg (by omega), fitB_yes h3, fitN_yes h3]; rfl
  · rw [if_neg (by omega), if_neg (by omega), fitB_no h3, fitN, fitB_no h3]; rfl
section
variable {N : Nat} {w w' : World} {C : Cfg} {B s r : Nat} {ls ls' : Nat → List Int}
theorem KP.ext (h : KP N w C B s r ls ls') (he : Ext w w') : KP N w' C B s r ls ls' := by
  obtain ⟨g, L, t, L2, z, h1, h2, h3, h4, h5, h6, h7⟩ := h
  exact ⟨g, L, t, L2, z, h1.ext he, h2, h3, h4.ext he, h5, h6, Nat.le_trans h7 he.size⟩
theorem KP_upd (h : KP N w C B s r ls ls') (key d : Int) (hk : U64 key) (hd : I64 d) :
    Calls Tryz.prog 26 #[.pointer (some ⟨s, 0, none⟩), .int .u64 key, .int .i64 d] w fun e w' => e = .returned (.int .i64 (errK C B ls key d)) ∧ KP N w' C B s r (nextK C B ls key d) ls' ∧ Below N w w' := by
  obtain ⟨g, L, t, L2, z, h1, h2, h3, h4, h5, h6, h7⟩ := h
  refine (KUpdate_c s g C B L ls key d w h1 hd hk).mono ?_
  rintro e w' ⟨rfl, hK, hM⟩
  refine ⟨rfl, ⟨g, L, t, L2, z, hK, h2, h3, h4.keep (fun k hk => hM.block k (h4.lt hk) (fun hc => ?_)), h5, h6, Nat.le_trans h7 hM.size⟩, hM.below (Nat.le_trans h6 h7) (fun k hc => ?_)⟩
  · obtain ⟨n, hn, rfl⟩ := hc
    have := h2.lc n hn
    have := h5 _ hk
    omega
  · obtain ⟨n, hn, rfl⟩ := hc
    exact (h3 n hn).2.2
theorem KP_rupd (h : KP N w C B s r ls ls') (key d : Int) (hk : U64 key) (hd : I64 d) :
    Calls Tryz.prog 27 #[.pointer (some ⟨r, 0, none⟩), .int .u64 key, .int .i64 d] w fun e w' => e = .returned (.int .i64 (errK C B ls' key d)) ∧ KP N w' C B s r ls (nextK C B ls' key d) ∧ Below N w w' := by
  obtain ⟨g, L, t, L2, z, h1, h2, h3, h4, h5, h6, h7⟩ := h
  have hr : z ≤ r := h5 r (.inl rfl)
  refine (RKUpdate_c r t C B L2 ls' key d w h4 hk hd).mono ?_
  rintro e w' ⟨rfl, (⟨h0, t', L', hR, hF, hM⟩ | ⟨h0, hE⟩)⟩
  · have e : nextK C B ls' key d = updK C ls' key d := by unfold nextK; rw [decide_eq_true h0]; rfl
    rw [e]
    refine ⟨rfl, ⟨g, L, t', L', z, h1.keepN h2 (fun k hk hz => hM.block k hk (by omega)), h2, h3, hR, fun k hk => ?_, h6, Nat.le_trans h7 hM.size⟩, hM.below (Nat.le_trans h6 h7) (fun k hc => by omega)⟩
    rcases hF k hk with rfl | h
    · exact hr
    · omega
  · have e : nextK C B ls' key d = ls' := by unfold nextK; rw [decide_eq_false h0]; rfl
    rw [e]
    exact ⟨rfl, ⟨g, L, t, L2, z, h1.ext hE, h2, h3, h4.ext hE, h5, h6, Nat.le_trans h7 hE.size⟩, below_of hE (Nat.le_trans h6 h7)⟩
theorem ptU_uniq (h : KP N w C B s r ls ls') : Uniq C B ls' (ptU C ls') := by
  obtain ⟨g, L, t, L2, z, h1, h2, h3, h4, h5, h6, h7⟩ := h
  intro n i x hn h0 hi hx
  have hI : I64 x := ptA_I (r := 0) (.inr ⟨hi, hx, rfl⟩) (h4.lev n hn).fit
  have he : ∃ y, I64 y ∧ lvPt C n (ls' n) i y := ⟨x, hI, hx⟩
  unfold ptU
  rw [dif_pos he]
  exact lvPt_unique hx he.choose_spec.2
theorem KP_parts (h : KP N w C B s r ls ls) (lo hi : Int) (hlo : U64 lo) (hhi : U64 hi) :
    Calls Tryz.prog 33 #[.pointer (some ⟨s, 0, none⟩), .int .u64 lo, .int .u64 hi] w fun e w' => ∃ v, e = .returned (.tuple #[v, .int .i64 (partR B (ptU C ls) lo hi).2]) ∧ IntsAt w' v (partR B (ptU C ls) lo hi).1 ∧ Ext w w' := by
  have hU := ptU_uniq h
  obtain ⟨g, L, t, L2, z, h1, h2, h3, h4, h5, h6, h7⟩ := h
  refine (Parts_c s g C B L ls w h1 (ptU C ls) hU lo hi hlo hhi).mono ?_
  unfold partR
  rintro e w' (⟨a, rfl, hE⟩ | ⟨⟨a, b⟩, rfl, hE⟩ | ⟨⟨a, b⟩, v, rfl, ho, hE⟩)
  · rw [if_pos a]; exact ⟨_, rfl, .inl ⟨rfl, rfl⟩, hE⟩
  · rw [if_neg (by omega), if_pos b]; exact ⟨_, rfl, .inl ⟨rfl, rfl⟩, hE⟩
  · rw [if_neg (by omega), if_neg (by omega)]; exact ⟨v, rfl, IntsAt.of_row ho, hE⟩
theorem KP_rparts (h : KP N w C B s r ls ls) (lo hi : Int) (hlo : U64 lo) (hhi : U64 hi) :
    Calls Tryz.prog 34 #[.pointer (some ⟨r, 0, none⟩), .int .u64 lo, .int .u64 hi] w fun e w' => ∃ v, e = .returned (.tuple #[v, .int .i64 (partR B (ptU C ls) lo hi).2]) ∧ IntsAt w' v (partR B (ptU C ls) lo hi).1 ∧ Ext w w' := by
  have hU := ptU_uniq h
  obtain ⟨g, L, t, L2, z, h1, h2, h3, h4, h5, h6, h7⟩ := h
  refine (RParts_c r t C B L2 ls w h4 (ptU C ls) hU lo hi hlo hhi).mono ?_
  unfold partR
  rintro e w' (⟨a, ⟨v, rfl, ho⟩, hE⟩ | ⟨⟨a, b⟩, ⟨v, rfl, ho⟩, hE⟩ | ⟨⟨a, b⟩, v, rfl, ho, hE⟩)
  · rw [if_pos a]; exact ⟨v, rfl, IntsAt.of_row (xs := []) ho, hE⟩
  · rw [if_neg (by omega), if_pos b]; exact ⟨v, rfl, IntsAt.of_row (xs := []) ho, hE⟩
  · rw [if_neg (by omega), if_neg (by omega)]; exact ⟨v, rfl, IntsAt.of_row ho, hE⟩
theorem KP_range (h : KP N w C B s r ls ls) (lo hi : Int) (hlo : U64 lo) (hhi : U64 hi) :
    Calls Tryz.prog 35 #[.pointer (some ⟨s, 0, none⟩), .int .u64 lo, .int .u64 hi] w fun e w' => e = .returned (.tuple #[.int .i64 (rangR B (ptU C ls) lo hi).1, .int .i64 (rangR B (ptU C ls) lo hi).2]) ∧ Ext w w' := by
  have hU := ptU_uniq h
  obtain ⟨g, L, t, L2, z, h1, h2, h3, h4, h5, h6, h7⟩ := h
  exact (Range_c s g C B L ls w h1 (ptU C ls) hU (ptU_I C ls) lo hi hlo hhi).mono fun e w' h => rang_of h
theorem KP_rank (h : KP N w C B s r ls ls) (hi : Int) (hhi : U64 hi) :
    Calls Tryz.prog 37 #[.pointer (some ⟨s, 0, none⟩), .int .u64 hi] w fun e w' => e = .returned (.tuple #[.int .i64 (rangR B (ptU C ls) 0 hi).1, .int .i64 (rangR B (ptU C ls) 0 hi).2]) ∧ Ext w w' := by
  have hU := ptU_uniq h
  obtain ⟨g, L, t, L2, z, h1, h2, h3, h4, h5, h6, h7⟩ := h
  exact (Rank_c s g C B L ls w h1 (ptU C ls) hU (ptU_I C ls) hi hhi).mono fun e w' h => rang_of h
theorem KP_rrange (h : KP N w C B s r ls ls) (lo hi : Int) (hlo : U64 lo) (hhi : U64 hi) :
    Calls Tryz.prog 36 #[.pointer (some ⟨r, 0, none⟩), .int .u64 lo, .int .u64 hi] w fun e w' => e = .returned (.tuple #[.int .i64 (rangR B (ptU C ls) lo hi).1, .int .i64 (rangR B (ptU C ls) lo hi).2]) ∧ Ext w w' := by
  have hU := ptU_uniq h
  obtain ⟨g, L, t, L2, z, h1, h2, h3, h4, h5, h6, h7⟩ := h
  exact (RRange_c r t C B L2 ls w h4 (ptU C ls) hU (ptU_I C ls) lo hi hlo hhi).mono fun e w' h => rang_of h
theorem KP.rok (h : KP N w C B s r ls ls') : C.Ok ∧ C.bits = B := by
  obtain ⟨g, L, t, L2, z, h1, h2, h3, h4, h5, h6, h7⟩ := h
  exact ⟨h1.ok, h1.hB⟩
end
end Go.Proofs.YteoblkcbemeamaaGreat
