/- Part. No condition. -/
import Derived.Test.YtfhdjekpdifajaaGreatDSummaryHistogram5
import Derived.Test.YtfhdjekpdifajaaGreatDSummaryHistogram8
import Derived.Test.YtfhdjekpdifajaaGreatDSummaryHistogram4
import Derived.Test.YtfhdjekpdifajaaGreatDSummaryHistogram6
import Derived.Test.YtfhdjekpdifajaaGreatDSummaryHistogram3
import Derived.Test.YtfhdjekpdifajaaGreatDSummaryHistogram7
import Derived.Test.YtfhdjekpdifajaaGreatDSummaryHistogram1
import Derived.Test.YtfhdjekpdifajaaGreatDSummaryHistogram2
namespace Go.Proofs.YtfhdjekpdifajaaGreat
set_option linter.unusedVariables false
open Go.RowKit
def RPartsPost (w : World) (B : Nat) (pt : Nat → Int → Int) (lo hi : Int) (e : Ending) (w' : World) : Prop :=
  (hi < lo ∧ (∃ v, e = .returned (.tuple #[v, .int .i64 1]) ∧ w'.ownsRow w.heap.size 2 1 v 0 []) ∧ Ext w w') ∨
  ((lo ≤ hi ∧ 2 ^ B ≤ hi) ∧ (∃ v, e = .returned (.tuple #[v, .int .i64 2]) ∧ w'.ownsRow w.heap.size 2 1 v 0 []) ∧ Ext w w') ∨
  ((lo ≤ hi ∧ hi < 2 ^ B) ∧ ∃ v, e = .returned (.tuple #[v, .int .i64 0]) ∧ w'.ownsRow w.heap.size 2 1 v (cvV pt B lo hi).length (ints (cvV pt B lo hi)) ∧ Ext w w')
theorem cv_snoc {pt : Nat → Int → Int} {B : Nat} {lo hi : Int} {k : Nat} {ps : List (Nat × Int)} (hps : covL B 0 lo hi = ps) (hk : k < ps.length) {pre : List Int} (hp : pre = (cvV pt B lo hi).take k) :
    pre ++ [pt (ps.getD k (0, 0)).1 (ps.getD k (0, 0)).2] = (cvV pt B lo hi).take (k + 1) := by
  unfold cvV at hp ⊢
  rw [hps] at hp ⊢
  have hk2 : k < (ps.map fun p => pt p.1 p.2).length := by rw [List.length_map]; exact hk
  rw [List.take_succ_eq_append_getElem hk2, hp]
  congr 2
  rw [List.getElem_map]
  have e : ps.getD k (0, 0) = ps[k] := by simp [List.getD, List.getElem?_eq_getElem hk]
  rw [e]
theorem pcs_cells {w : World} {base : Nat} {p : Option Addr} {n c : Nat} {ps : List (Nat × Int)} (h : w.ownsRow base 39 2 (.slice p n c) n (pcV ps)) {k : Nat} (hk : k < ps.length) :
    ∃ g, p = some ⟨g, 0, none⟩ ∧ base ≤ g ∧ g < w.heap.size ∧ w.cell? ⟨g, k * 2, none⟩ = some (.int .i64 ((ps.getD k (0, 0)).1 : Int)) ∧ w.cell? ⟨g, k * 2 + 1, none⟩ = some (.int .u64 (ps.getD k (0, 0)).2) := by
  obtain ⟨h1, h2⟩ := h
  rw [pcV_len] at h1
  rcases h2 with ⟨_, h3⟩ | ⟨g, cap, cur, hv, hb, hh, hc, _, hs, ht⟩
  · omega
  · obtain ⟨rfl, _⟩ := Value.slice.inj hv
    obtain ⟨a1, a2⟩ := pcV_at hk
    rw [← ht] at a1 a2
    rw [List.getElem?_take_of_lt (by omega)] at a1 a2
    simp only [Array.getElem?_toList] at a1 a2
    refine ⟨g, rfl, hb, lt_of hh, ?_, ?_⟩
    · rw [cell_of hh]; exact a1
    · rw [cell_of hh]; exact a2
/-- The pieces' own block is still what it was. -/
def KeptP (w1 wr : World) (pp : Option Addr) (u : Value) : Prop := ∀ g, pp = some ⟨g, 0, none⟩ → wr.heap[g]? = w1.heap[g]? ∧ g < wr.heap.size ∧ u.ownBlock ≠ some g
set_option maxRecDepth 20000 in
set_option maxHeartbeats 8000000 in
theorem RParts_c (s t : Nat) (C : Cfg) (B : Nat) (L : Nat → RLev) (ls : Nat → List Int) (w : World) (h : RKAt w s t C B L ls) (pt : Nat → Int → Int) (hU : Uniq C B ls pt) (lo hi : Int) (hlo : U64 lo) (hhi : U64 hi) :
    Calls Tryz.prog 179 #[.pointer (some ⟨s, 0, none⟩), .int .u64 lo, .int .u64 hi] w (RPartsPost w B pt lo hi) := by
  have hB := h.hB
  have hb1 := h.ok.b1
  have hb2 := h.ok.b2
  obtain ⟨w0, hw0⟩ : ∃ w0, w.alloc (.cells #[] 2) = w0 := ⟨_, rfl⟩
  have ho0 : w0.ownsRow w.heap.size 2 1 (.slice (some ⟨w.heap.size, 0, none⟩) 0 0) ([] : List Int).length (ints []) := by rw [← hw0]; exact ⟨rfl, .inr ⟨w.heap.size, 0, #[], rfl, Nat.le_refl _, heap_at _ _ rfl, Nat.le_refl _, Nat.zero_le _, rfl, rfl⟩⟩
  have hE0 : Ext w w0 := by rw [← hw0]; exact Ext.alloc' _ _
  have hz0 : w0.heap.size = w.heap.size + 1 := by rw [← hw0]; exact size_alloc _ _
  have HO0 := Lib.hid ho0
  have HZ0 := Lib.hid hz0
  have H := Lib.hid h
  obtain ⟨hlo0, hlo1⟩ := hlo
  obtain ⟨hhi0, hhi1⟩ := hhi
  clear ho0 hz0 h
  by_cases h1 : hi < lo
  · go_enter Tryz.func179, Tryz.ntmps179
    go_upto_region 2 with (fail)
    try rw [hw0]
    go_wp2
    go_ret2
    exact .inl ⟨h1, ⟨_, rfl, HO0.out⟩, hE0⟩
  · have H1 := Lib.hid (show lo ≤ hi by omega)
    obtain ⟨cap, hex, hcap⟩ := (H.out.ext hE0).ex
    have c0 := (cell_of hex 0).trans (show _ = some (Value.int .i64 B) by rw [← hB]; rfl)
    have hls := lt_of hex
    have HCV := Lib.hid (RCover_c B (by omega) (by omega) lo hi ⟨hlo0, hlo1⟩ ⟨hhi0, hhi1⟩ w0)
    have HBB := Lib.hid (And.intro hb1 (And.intro hb2 hB))
    clear hex hb1 hb2 hB
    go_enter Tryz.func179, Tryz.ntmps179
    go_upto_region 2 with (fail)
    try rw [hw0]
    go_wp2_with fail
    refine Calls.mono HCV.out ?_
    rintro e w1 (⟨hc, v, rfl, hx⟩ | ⟨hc, v, rfl, ho, hx⟩)
    · have h2 : 2 ^ B ≤ hi := by have := H1.out; omega
      have H2 := Lib.hid h2
      have HX := Lib.hid hx
      clear h2 hc hx h1 c0 hls
      go_wp2
      go_ret2
      exact .inr (.inl ⟨⟨H1.out, H2.out⟩, ⟨_, rfl, own_keepB HO0.out (fun k hk => HX.out.block k (own_lt HO0.out hk))⟩, hE0.trans' HX.out⟩)
    · obtain ⟨ps, hps⟩ : ∃ ps, covL B 0 lo hi = ps := ⟨_, rfl⟩
      rw [hps] at ho
      have hbd := cov_bd B 0 lo hi hlo0 hc.1 hc.2
      have hlv := cov_lev B 0 lo hi
      have hlen := cov_len B 0 lo hi
      rw [hps] at hbd hlv hlen
      obtain ⟨pp, pc, rfl⟩ := own_sl ho
      have HO := Lib.hid ho
      have HBD := Lib.hid hbd
      have HLV := Lib.hid hlv
      have HLEN := Lib.hid hlen
      have HPS := Lib.hid hps
      have HC := Lib.hid hc
      have hx01 := hx
      have hE1 := hE0.trans' hx
      have hkp0 : KeptP w1 w1 pp (.slice (some ⟨w.heap.size, 0, none⟩) 0 0) := fun g hg => by
        subst hg
        have hb := own_blk HO.out (k := g) rfl
        exact ⟨rfl, own_lt HO.out rfl, fun e => by have h3 : w.heap.size = g := Option.some.inj e; have := HZ0.out; omega⟩
      have hor := own_keepB HO0.out (fun k hk => hx.block k (own_lt HO0.out hk))
      have HKP0 := Lib.hid hkp0
      have HOR := Lib.hid hor
      clear ho hbd hlv hlen hps hc hx hx01 hkp0 hor c0 hls
      generalize hnn : ps.length = np at *
      have HNP := Lib.hid hnn
      have hnp : np ≤ 200 := by have := HLEN.out; have := HBB.out.2.1; have := HBB.out.2.2; omega
      clear hnn
      go_wp2_with fail
      go_loopw [8, 11] (fun u8 u11 wr => ∃ (k : Nat) (pre : List Int), k ≤ np ∧ u11 = .int .i64 k ∧ pre.length = k ∧ pre = (cvV pt B lo hi).take k ∧ wr.ownsRow w.heap.size 2 1 u8 pre.length (ints pre) ∧ KeptP w1 wr pp u8 ∧ Ext w wr) (fun _ u11 _ => np - (intOf u11).toNat)
      case atStart => exact ⟨0, [], Nat.zero_le _, rfl, rfl, rfl, HOR.out, HKP0.out, hE1⟩
      case round =>
        clear hE1 HOR HKP0
        obtain ⟨k, pre, hk, rfl, hpl, hpre, hown, hkp, hE⟩ := hrel
        obtain ⟨pv, cv, rfl⟩ := own_sl hown
        have HPRE := Lib.hid hpre
        have HOWN := Lib.hid hown
        have HKP := Lib.hid hkp
        have HPL := Lib.hid hpl
        clear hpre hown hkp
        subst hpl
        by_cases hgo : pre.length < np
        · obtain ⟨g, rfl, hbg, hgl, d1', d2'⟩ := pcs_cells HO.out (k := pre.length) (by rw [HNP.out]; exact hgo)
          obtain ⟨hgk, hgs, hgn⟩ := HKP.out g rfl
          have d1 := (World.cell?_of_block (a := ⟨g, pre.length * 2, none⟩) hgk).trans d1'
          have d2 := (World.cell?_of_block (a := ⟨g, pre.length * 2 + 1, none⟩) hgk).trans d2'
          have hmem : ps.getD pre.length (0, 0) ∈ ps := by simp [List.getD, List.getElem?_eq_getElem (show pre.length < ps.length by rw [HNP.out]; exact hgo)]
          have hq1 := HBD.out _ hmem
          have hq2 := HLV.out _ hmem
          have hsn := cv_snoc HPS.out (k := pre.length) (by rw [HNP.out]; exact hgo) HPRE.out
          clear d1' d2' hmem
          generalize ps.getD pre.length (0, 0) = q at *
          obtain ⟨n, i⟩ := q
          have hn : n ≤ B := by have := hq2.2; simp only at this; omega
          have hkey : i < keys C n := by
            have h3 := hq1.2
            simp only at h3
            unfold keys
            rw [show (C.bits - (n : Int)).toNat = 0 + B - n by have := HBB.out.2.2; omega]
            exact h3
          have hi0 : 0 ≤ i := hq1.1
          have hi1 : i < 18446744073709551616 := by
            have := keys_bd C H.out.ok n (Int.natCast_nonneg n)
            omega
          have HSN := Lib.hid hsn
          have HGN := Lib.hid (And.intro hgk (And.intro hgs hgn))
          have hcall := RKPoint_c s t C B L ls n i (by unfold I64; have := HBB.out.2.1; have := HBB.out.2.2; omega) ⟨hi0, hi1⟩ wr (H.out.ext hE)
          have HCALL := Lib.hid hcall
          have HUN := Lib.hid (fun x (hx : lvPt C n (ls n) i x) => hU n i x hn hi0 hkey hx)
          clear hq1 hq2 hsn hgk hgn hcall
          go_wp2_with fail
          refine Calls.mono HCALL.out ?_
          rintro e w5 ⟨x, r, rfl, hp, hx5⟩
          have hxp : x = pt n i := by
            rcases hp with ⟨hbad, _⟩ | ⟨m, hm, _, hpa⟩
            · omega
            · obtain rfl : n = m := by omega
              rcases hpa with ⟨hbad, _⟩ | ⟨_, hl, _⟩
              · omega
              · exact HUN.out x hl
          rw [← hxp] at HSN
          have HX5 := Lib.hid hx5
          have ho5 := own_keepB HOWN.out (fun j hj => hx5.block j (own_lt HOWN.out hj))
          have HO5 := Lib.hid ho5
          have hE5 := hE.trans' hx5
          clear hp hxp hx5 ho5 HUN HCALL
          go_wp2_with (at_builtin; refine wpList_app1 w5 x pre _ w.heap.size 2 HO5.out 43 rfl _ _ rfl info_i64 Tryz.underlying43 (by rfl) (by rfl) ?a1 ?a2 ?_)
          case a1 => have := HPL.out; have := HLEN.out; have := HNP.out; have := HBB.out.2.1; have := HBB.out.2.2; omega
          case a2 => exact hE5.size
          intro v' w6 hw1 hw2 hw3
          have hE6 : Ext w w6 := ext_grown hE5 hw2 (fun j hj => own_blk HO5.out hj)
          have hkp6 : KeptP w1 w6 (some ⟨g, 0, none⟩) v' := fun g' hg' => by
            obtain rfl : g = g' := by have := Option.some.inj hg'; exact congrArg Addr.block this
            have hs5 := HX5.out.size
            have hgs := HGN.out.2.1
            refine ⟨(grown_old hw2 (by omega) (fun e => HGN.out.2.2 e.symm)).trans ((HX5.out.block g hgs).trans HGN.out.1), ?_, fun e => ?_⟩
            · have h6 := hw2.size
              rw [size_alloc] at h6
              omega
            · rcases hw3 with h3 | h3
              · exact HGN.out.2.2 (by rw [← h3]; exact e)
              · rw [h3] at e; have h7 : w5.heap.size + 1 = g := Option.some.inj e; omega
          obtain ⟨pv2, cv2, rfl⟩ := own_sl hw1
          have HW1 := Lib.hid hw1
          have HKP6 := Lib.hid hkp6
          clear hw1 hw2 hw3 hkp6
          go_wp2
          go_roundw
          case rel => exact ⟨pre.length + 1, pre ++ [x], by omega, by go_num, by rw [List.length_append]; rfl, HSN.out, by rw [List.length_append]; exact HW1.out, HKP6.out, hE6⟩
          case measure => simp [intOf]; omega
        · obtain hkn : pre.length = np := by omega
          have hfull : pre = cvV pt B lo hi := by
            rw [HPRE.out]
            refine List.take_of_length_le ?_
            unfold cvV
            rw [List.length_map, HPS.out, HNP.out, hkn]
            exact Nat.le_refl _
          have HFULL := Lib.hid hfull
          clear hfull
          go_wp2
          go_ret2
          exact .inr (.inr ⟨HC.out, _, rfl, by
            rw [← HFULL.out]
            have h := HOWN.out
            rw [hkn] at h ⊢
            exact h, hE⟩)
set_option maxRecDepth 20000 in
set_option maxHeartbeats 4000000 in
theorem RRange_c (s t : Nat) (C : Cfg) (B : Nat) (L : Nat → RLev) (ls : Nat → List Int) (w : World) (h : RKAt w s t C B L ls) (pt : Nat → Int → Int) (hU : Uniq C B ls pt) (hI : ∀ n i, I64 (pt n i)) (lo hi : Int) (hlo : U64 lo) (hhi : U64 hi) :
    Calls Tryz.prog 133 #[.pointer (some ⟨s, 0, none⟩), .int .u64 lo, .int .u64 hi] w (RangePost w B pt lo hi) := by
  have hlen : (cvV pt B lo hi).length ≤ 1000000 := by
    unfold cvV
    rw [List.length_map]
    have := cov_len B 0 lo hi
    have h2 := h.ok.b2
    have h3 := h.hB
    omega
  have hall : ∀ x ∈ cvV pt B lo hi, I64 x := by
    intro x hx
    unfold cvV at hx
    simp only [List.mem_map] at hx
    obtain ⟨p, _, rfl⟩ := hx
    exact hI _ _
  have HP := Lib.hid (RParts_c s t C B L ls w h pt hU lo hi hlo hhi)
  have HL := Lib.hid hlen
  have HA := Lib.hid hall
  clear h hlen hall
  go_enter Tryz.func133, Tryz.ntmps133
  go_wp2_with fail
  refine Calls.mono HP.out ?_
  rintro e w1 (⟨hc, ⟨v, rfl, _⟩, hx⟩ | ⟨hc, ⟨v, rfl, _⟩, hx⟩ | ⟨hc, v, rfl, ho, hx⟩)
  · have HC := Lib.hid hc
    clear hc
    go_wp2_with fail
    go_ret2
    exact ⟨.inl ⟨HC.out, rfl⟩, hx⟩
  · have HC := Lib.hid hc
    clear hc
    go_wp2_with fail
    go_ret2
    exact ⟨.inr (.inl ⟨HC.out, rfl⟩), hx⟩
  · have HC := Lib.hid hc
    have HI := Lib.hid (IntsAt.of_row ho)
    clear hc ho
    go_wp2_with fail
    refine Calls.mono (RSum_c _ v w1 HI.out HA.out HL.out) ?_
    rintro e w2 ⟨rfl, hx2⟩
    by_cases hT : I64 (lsum (cvV pt B lo hi))
    · rw [fitB_yes hT, fitN_yes hT]
      go_wp2_with fail
      go_ret2
      exact ⟨.inr (.inr (.inl ⟨HC.out, hT, rfl⟩)), hx.trans' hx2⟩
    · rw [fitB_no hT]
      go_wp2_with fail
      go_ret2
      exact ⟨.inr (.inr (.inr ⟨HC.out, hT, rfl⟩)), hx.trans' hx2⟩
end Go.Proofs.YtfhdjekpdifajaaGreat
namespace Go.Proofs.YtfhdjekpdifajaaGreat
set_option linter.unusedVariables false
open Go.RowKit
structure Own4 (N : Nat) (w : World) (F1 F2 F3 F4 : Nat → Prop) (P1 P2 P3 P4 : World → Prop) : Prop where
  o1 : Own F1 P1 w
  o2 : Own F2 P2 w
  o3 : Own F3 P3 w
  o4 : Own F4 P4 w
  d12 : Dj F1 F2
  d13 : Dj F1 F3
  d14 : Dj F1 F4
  d23 : Dj F2 F3
  d24 : Dj F2 F4
  d34 : Dj F3 F4
  n1 : ∀ k, F1 k → N ≤ k
  n2 : ∀ k, F2 k → N ≤ k
  n3 : ∀ k, F3 k → N ≤ k
  n4 : ∀ k, F4 k → N ≤ k
  nw : N ≤ w.heap.size
section
variable {N : Nat} {w w' : World} {F1 F2 F3 F4 : Nat → Prop} {P1 P2 P3 P4 : World → Prop}
theorem Own4.ext (h : Own4 N w F1 F2 F3 F4 P1 P2 P3 P4) (he : Ext w w') : Own4 N w' F1 F2 F3 F4 P1 P2 P3 P4 :=
  ⟨h.o1.ext he, h.o2.ext he, h.o3.ext he, h.o4.ext he, h.d12, h.d13, h.d14, h.d23, h.d24, h.d34, h.n1, h.n2, h.n3, h.n4, Nat.le_trans h.nw he.size⟩
/-- The first is changed, or put anew. -/
theorem Own4.step {F1' S : Nat → Prop} {P1' : World → Prop} (h : Own4 N w F1 F2 F3 F4 P1 P2 P3 P4) (hm : Mod S w w') (hS : ∀ k, S k → F1 k) (h1 : Own F1' P1' w') (hF : ∀ k, F1' k → F1 k ∨ w.heap.size ≤ k) : Own4 N w' F1' F2 F3 F4 P1' P2 P3 P4 := by
  refine ⟨h1, h.o2.mod hm (fun k hk hs => h.d12 k (hS k hs) hk), h.o3.mod hm (fun k hk hs => h.d13 k (hS k hs) hk), h.o4.mod hm (fun k hk hs => h.d14 k (hS k hs) hk), ?_, ?_, ?_, h.d23, h.d24, h.d34, fun k hk => ?_, h.n2, h.n3, h.n4, Nat.le_trans h.nw hm.size⟩
  · exact (h.o2.grow h.d12.symm hF).symm
  · exact (h.o3.grow h.d13.symm hF).symm
  · exact (h.o4.grow h.d14.symm hF).symm
  · rcases hF k hk with h2 | h2
    · exact h.n1 k h2
    · exact Nat.le_trans h.nw h2
theorem Own4.low {S : Nat → Prop} (h : Own4 N w F1 F2 F3 F4 P1 P2 P3 P4) (hm : Mod S w w') (hS : ∀ k, S k → F1 k) : Below N w w' := hm.below h.nw (fun k hk => h.n1 k (hS k hk))
end
theorem below_of {N : Nat} {w w' : World} (h : Ext w w') (hN : N ≤ w.heap.size) : Below N w w' := ⟨h.os, h.tape, h.output, h.size, fun k hk => h.block k (Nat.lt_of_lt_of_le hk hN)⟩
theorem cell_below {N : Nat} {w w' : World} (h : Below N w w') {b o : Nat} {v : Value} (hb : b < N) (hc : w.cell? ⟨b, o, none⟩ = some v) : w'.cell? ⟨b, o, none⟩ = some v := (h.cell (p := ⟨b, o, none⟩) hb).trans hc
theorem mod_below {N : Nat} {w w' : World} (h : Below N w w') : Mod (fun k => N ≤ k) w w' := ⟨h.os, h.tape, h.output, h.size, fun k _ hn => h.block k (Nat.lt_of_not_le hn)⟩
end Go.Proofs.YtfhdjekpdifajaaGreat
namespace Go.Proofs.YtfhdjekpdifajaaGreat
set_option linter.unusedVariables false
open Go.RowKit
/-- What an update leaves. -/
def nextK (C : Cfg) (B : Nat) (ls : Nat → List Int) (key d : Int) : Nat → List Int := bif decide (errK C B ls key d = 0) then updK C ls key d else ls
/-- A stack, and one of the references. -/
def KP (N : Nat) (w : World) (C : Cfg) (B s r : Nat) (ls ls' : Nat → List Int) : Prop :=
  ∃ g L t L2 z, KAt w s g C B L ls ∧ KLow z s g B L ∧ KFresh N B L ∧ RKAt w r t C B L2 ls' ∧ (∀ k, rkF r t C B L2 k → z ≤ k) ∧ N ≤ z ∧ z ≤ w.heap.size
noncomputable def ptU (C : Cfg) (ls : Nat → List Int) (n : Nat) (i : Int) : Int := by classical exact if h : ∃ x, I64 x ∧ lvPt C n (ls n) i x then h.choose else 0
theorem ptU_I (C : Cfg) (ls : Nat → List Int) (n : Nat) (i : Int) : I64 (ptU C ls n i) := by
  unfold ptU
  split
  · rename_i h; exact h.choose_spec.1
  · unfold I64; omega
def rangR (B : Nat) (pt : Nat → Int → Int) (lo hi : Int) : Int × Int := if hi < lo then (0, 1) else if 2 ^ B ≤ hi then (0, 2) else (fitN (lsum (cvV pt B lo hi)), bif fitB (lsum (cvV pt B lo hi)) then 0 else 4)
theorem rang_of {w w' : World} {B : Nat} {pt : Nat → Int → Int} {lo hi : Int} {e : Ending} (h : RangePost w B pt lo hi e w') : e = .returned (.tuple #[.int .i64 (rangR B pt lo hi).1, .int .i64 (rangR B pt lo hi).2]) ∧ Ext w w' := by
  obtain ⟨h, hE⟩ := h
  refine ⟨?_, hE⟩
  unfold rangR
  rcases h with ⟨h1, rfl⟩ | ⟨⟨h1, h2⟩, rfl⟩ | ⟨⟨h1, h2⟩, h3, rfl⟩ | ⟨⟨h1, h2⟩, h3, rfl⟩
  · rw [if_pos h1]
  · rw [if_neg (by omega), if_pos h2]
  · rw [if_neg (by omega), if_neg (by omega), fitB_yes h3, fitN_yes h3]; rfl
  · rw [if_neg (by omega), if_neg (by omega), fitB_no h3, fitN, fitB_no h3]; rfl
section
variable {N : Nat} {w w' : World} {C : Cfg} {B s r : Nat} {ls ls' : Nat → List Int}
theorem KP.ext (h : KP N w C B s r ls ls') (he : Ext w w') : KP N w' C B s r ls ls' := by
  obtain ⟨g, L, t, L2, z, h1, h2, h3, h4, h5, h6, h7⟩ := h
  exact ⟨g, L, t, L2, z, h1.ext he, h2, h3, h4.ext he, h5, h6, Nat.le_trans h7 he.size⟩
theorem KP_upd (h : KP N w C B s r ls ls') (key d : Int) (hk : U64 key) (hd : I64 d) :
    Calls Tryz.prog 26 #[.pointer (some ⟨s, 0, none⟩), .int .u64 key, .int .i64 d] w fun e w' => e = .returned (.int .i64 (errK C B ls key d)) ∧ KP N w' C B s r (nextK C B ls key d) ls' ∧ Below N w w' := by
  obtain ⟨g, L, t, L2, z, h1, h2, h3, h4, h5, h6, h7⟩ := h
  refine (KUpdate_c s g C B L ls key d w h1 hd hk).mono ?_
  rintro e w' ⟨rfl, hK, hM⟩
  refine ⟨rfl, ⟨g, L, t, L2, z, hK, h2, h3, h4.keep (fun k hk => hM.block k (h4.lt hk) (fun hc => ?_)), h5, h6, Nat.le_trans h7 hM.size⟩, hM.below (Nat.le_trans h6 h7) (fun k hc => ?_)⟩
  · obtain ⟨n, hn, rfl⟩ := hc
    have := h2.lc n hn
    have := h5 _ hk
    omega
  · obtain ⟨n, hn, rfl⟩ := hc
    exact (h3 n hn).2.2
theorem KP_rupd (h : KP N w C B s r ls ls') (key d : Int) (hk : U64 key) (hd : I64 d) :
    Calls Tryz.prog 27 #[.pointer (some ⟨r, 0, none⟩), .int .u64 key, .int .i64 d] w fun e w' => e = .returned (.int .i64 (errK C B ls' key d)) ∧ KP N w' C B s r ls (nextK C B ls' key d) ∧ Below N w w' := by
  obtain ⟨g, L, t, L2, z, h1, h2, h3, h4, h5, h6, h7⟩ := h
  have hr : z ≤ r := h5 r (.inl rfl)
  refine (RKUpdate_c r t C B L2 ls' key d w h4 hk hd).mono ?_
  rintro e w' ⟨rfl, (⟨h0, t', L', hR, hF, hM⟩ | ⟨h0, hE⟩)⟩
  · have e : nextK C B ls' key d = updK C ls' key d := by unfold nextK; rw [decide_eq_true h0]; rfl
    rw [e]
    refine ⟨rfl, ⟨g, L, t', L', z, h1.keepN h2 (fun k hk hz => hM.block k hk (by omega)), h2, h3, hR, fun k hk => ?_, h6, Nat.le_trans h7 hM.size⟩, hM.below (Nat.le_trans h6 h7) (fun k hc => by omega)⟩
    rcases hF k hk with rfl | h
    · exact hr
    · omega
  · have e : nextK C B ls' key d = ls' := by unfold nextK; rw [decide_eq_false h0]; rfl
    rw [e]
    exact ⟨rfl, ⟨g, L, t, L2, z, h1.ext hE, h2, h3, h4.ext hE, h5, h6, Nat.le_trans h7 hE.size⟩, below_of hE (Nat.le_trans h6 h7)⟩
theorem ptU_uniq (h : KP N w C B s r ls ls') : Uniq C B ls' (ptU C ls') := by
  obtain ⟨g, L, t, L2, z, h1, h2, h3, h4, h5, h6, h7⟩ := h
  intro n i x hn h0 hi hx
  have hI : I64 x := ptA_I (r := 0) (.inr ⟨hi, hx, rfl⟩) (h4.lev n hn).fit
  have he : ∃ y, I64 y ∧ lvPt C n (ls' n) i y := ⟨x, hI, hx⟩
  unfold ptU
  rw [dif_pos he]
  exact lvPt_unique hx he.choose_spec.2
theorem KP_range (h : KP N w C B s r ls ls) (lo hi : Int) (hlo : U64 lo) (hhi : U64 hi) :
    Calls Tryz.prog 80 #[.pointer (some ⟨s, 0, none⟩), .int .u64 lo, .int .u64 hi] w fun e w' => e = .returned (.tuple #[.int .i64 (rangR B (ptU C ls) lo hi).1, .int .i64 (rangR B (ptU C ls) lo hi).2]) ∧ Ext w w' := by
  have hU := ptU_uniq h
  obtain ⟨g, L, t, L2, z, h1, h2, h3, h4, h5, h6, h7⟩ := h
  exact (Range_c s g C B L ls w h1 (ptU C ls) hU (ptU_I C ls) lo hi hlo hhi).mono fun e w' h => rang_of h
theorem KP_rrange (h : KP N w C B s r ls ls) (lo hi : Int) (hlo : U64 lo) (hhi : U64 hi) :
    Calls Tryz.prog 133 #[.pointer (some ⟨r, 0, none⟩), .int .u64 lo, .int .u64 hi] w fun e w' => e = .returned (.tuple #[.int .i64 (rangR B (ptU C ls) lo hi).1, .int .i64 (rangR B (ptU C ls) lo hi).2]) ∧ Ext w w' := by
  have hU := ptU_uniq h
  obtain ⟨g, L, t, L2, z, h1, h2, h3, h4, h5, h6, h7⟩ := h
  exact (RRange_c r t C B L2 ls w h4 (ptU C ls) hU (ptU_I C ls) lo hi hlo hhi).mono fun e w' h => rang_of h
end
end Go.Proofs.YtfhdjekpdifajaaGreat
namespace Go.Proofs.YtfhdjekpdifajaaGreat
set_option linter.unusedVariables false
open Go.RowKit
/-- The way down, if every rest fits. -/
def wayF (pt : Nat → Int → Int) : Nat → Int → Int → Option (List (Nat × Int))
  | 0, _, _ => some []
  | n + 1, i, k => if k ≤ pt n (2 * i) then (wayF pt n (2 * i) k).map (fun l => (n, 2 * i) :: l) else if fitB (k - pt n (2 * i)) = true then (wayF pt n (2 * i + 1) (k - pt n (2 * i))).map (fun l => (n, 2 * i + 1) :: l) else none
def wayFP (pt : Nat → Int → Int) (B : Nat) (k : Int) : Option (List (Nat × Int)) := (wayF pt B 0 k).map (fun l => (B, 0) :: l)
theorem wayF_len (pt : Nat → Int → Int) : ∀ (n : Nat) (i k : Int) (l : List (Nat × Int)), wayF pt n i k = some l → l.length = n
  | 0, _, _, l, h => by cases h; rfl
  | n + 1, i, k, l, h => by
    unfold wayF at h
    split at h
    · obtain ⟨m, hm, rfl⟩ := Option.map_eq_some_iff.1 h
      rw [List.length_cons, wayF_len pt n _ _ m hm]
    · split at h
      · obtain ⟨m, hm, rfl⟩ := Option.map_eq_some_iff.1 h
        rw [List.length_cons, wayF_len pt n _ _ m hm]
      · cases h
theorem wayFP_len {pt : Nat → Int → Int} {B : Nat} {k : Int} {l : List (Nat × Int)} (h : wayFP pt B k = some l) : l.length = B + 1 := by
  obtain ⟨m, hm, rfl⟩ := Option.map_eq_some_iff.1 h
  rw [List.length_cons, wayF_len pt B _ _ m hm]
/-- How far the way has come. -/
def WayAtR (w : World) (B : Nat) (C : Cfg) (b : Nat) (pt : Nat → Int → Int) (k : Int) (t : Nat) (k' : Int) (wr : World) (n : Nat) (i : Int) (dn : List (Nat × Int)) : Prop :=
  t + n = B ∧ dn.length = t + 1 ∧ dn.getD t (0, 0) = (n, i) ∧ wayFP pt B k = (wayF pt n i k').map (fun l => dn ++ l) ∧ 0 ≤ i ∧ i < keys C n ∧ 1 ≤ k' ∧ I64 k' ∧
  (∃ cur, wr.heap[b]? = some (.cells cur 232 (0, 0)) ∧ cur.size = 120) ∧ PCells wr b 0 dn ∧ Ext w wr
theorem way_nextR {w wr w6 : World} {B : Nat} {C : Cfg} {b : Nat} {pt : Nat → Int → Int} {k : Int} {t : Nat} {k' : Int} {m : Nat} {i : Int} {dn : List (Nat × Int)} (hW : WayAtR w B C b pt k t k' wr (m + 1) i dn) (hE : Ext wr w6) (hB : C.bits = B) (hBd : B ≤ 59) (hbw : w.heap.size ≤ b) {j k2 : Int}
    (hj : (j = 2 * i ∧ k' ≤ pt m (2 * i) ∧ k2 = k') ∨ (j = 2 * i + 1 ∧ pt m (2 * i) < k' ∧ I64 (k' - pt m (2 * i)) ∧ k2 = k' - pt m (2 * i))) :
    WayAtR w B C b pt k (t + 1) k2 ((w6.setCell ⟨b, (t + 1) * 2, none⟩ (.int .i64 m)).setCell ⟨b, (t + 1) * 2 + 1, none⟩ (.int .u64 j)) m j (dn ++ [(m, j)]) := by
  obtain ⟨a1, a2, a3, a4, a5, a6, a7, a8, ⟨cur, a9, a10⟩, a11, a12⟩ := hW
  have hkh := keys_half (C := C) (m := m) (by omega)
  have hs := way_set (hE.keep a9) a10 (a11.ext (lt_of a9) hE) (by omega) m j
  rw [a2] at hs
  refine ⟨by omega, by rw [List.length_append, a2]; rfl, ?_, ?_, ?_, ?_, ?_, ?_, hs.1, hs.2, ((a12.trans' hE).setR (p := ⟨b, (t + 1) * 2, none⟩) hbw _).setR (p := ⟨b, (t + 1) * 2 + 1, none⟩) hbw _⟩
  · rw [← a2]; simp
  · rw [a4]
    conv => lhs; unfold wayF
    rcases hj with ⟨rfl, h1, rfl⟩ | ⟨rfl, h1, h2, rfl⟩
    · rw [if_pos h1, Option.map_map]
      congr 1
      funext l
      simp
    · rw [if_neg (by omega), if_pos (fitB_yes h2), Option.map_map]
      congr 1
      funext l
      simp
  · rcases hj with ⟨rfl, _, _⟩ | ⟨rfl, _, _⟩ <;> omega
  · rcases hj with ⟨rfl, _, _⟩ | ⟨rfl, _, _⟩ <;> omega
  · rcases hj with ⟨_, h1, rfl⟩ | ⟨_, h1, _, rfl⟩ <;> omega
  · rcases hj with ⟨_, h1, rfl⟩ | ⟨_, h1, h2, rfl⟩
    · exact a8
    · exact h2
def WayRPost (w : World) (B : Nat) (T : Int) (pt : Nat → Int → Int) (k : Int) (e : Ending) (w' : World) : Prop :=
  ((k < 1 ∨ T < k) ∧ e = .returned (.tuple #[.slice none 0 0, .int .i64 6]) ∧ Ext w w') ∨
  ((1 ≤ k ∧ k ≤ T) ∧ wayFP pt B k = none ∧ e = .returned (.tuple #[.slice none 0 0, .int .i64 4]) ∧ Ext w w') ∨
  ((1 ≤ k ∧ k ≤ T) ∧ ∃ ps v base, wayFP pt B k = some ps ∧ e = .returned (.tuple #[v, .int .i64 0]) ∧ w.heap.size ≤ base ∧ w'.ownsRow base 39 2 v ps.length (pcV ps) ∧ Ext w w')
set_option maxRecDepth 20000 in
set_option maxHeartbeats 8000000 in
theorem WayR_c (s g : Nat) (C : Cfg) (B : Nat) (L : Nat → Lev) (ls : Nat → List Int) (w : World) (h : KAt w s g C B L ls) (k : Int) (hk : I64 k) (pt : Nat → Int → Int) (hT : Uniq C B ls pt) (hPI : ∀ n i, I64 (pt n i)) :
    Calls Tryz.prog 91 #[.pointer (some ⟨s, 0, none⟩), .int .i64 k] w (WayRPost w B ((ls B).getD 0 0) pt k) := by
  have hok := h.ok
  have hB := h.hB
  have hBd : B ≤ 59 := by have := hok.b2; omega
  by_cases hk1 : k < 1
  · go_enter Tryz.func91, Tryz.ntmps91
    go_wp2
    go_step3
    go_wp2
    go_ret2
    exact .inl ⟨.inl hk1, rfl, Ext.refl _⟩
  have hTot := fun W' (he : Ext w W') => KTotal_c s g C B L ls W' (h.ext he)
  generalize hTT : (ls B).getD 0 0 = T at *
  by_cases hk2 : T < k
  · go_enter Tryz.func91, Tryz.ntmps91
    go_wp2
    go_step3
    go_wp2_with fail
    refine (hTot _ (by (repeat' (first | exact Ext.refl _ | assumption | apply Ext.allocR | apply Ext.drewR | apply Ext.drewNR | (refine Ext.trans' ?_ (by assumption)))))).mono ?_
    rintro e w1 ⟨rfl, hx1⟩
    go_wp2
    go_ret2
    exact .inl ⟨.inr hk2, rfl, by (repeat' (first | exact Ext.refl _ | assumption | apply Ext.allocR | apply Ext.drewR | apply Ext.drewNR | (refine Ext.trans' ?_ (by assumption))))⟩
  have HB := Lib.hid hB
  have HTT := Lib.hid hTT
  clear hB hTT
  go_enter Tryz.func91, Tryz.ntmps91
  go_wp2
  go_step3
  go_wp2_with fail
  refine (hTot _ (by (repeat' (first | exact Ext.refl _ | assumption | apply Ext.allocR | apply Ext.drewR | apply Ext.drewNR | (refine Ext.trans' ?_ (by assumption)))))).mono ?_
  rintro e w1 ⟨rfl, hx1⟩
  have hE1 : Ext w w1 := by (repeat' (first | exact Ext.refl _ | assumption | apply Ext.allocR | apply Ext.drewR | apply Ext.drewNR | (refine Ext.trans' ?_ (by assumption))))
  clear hx1 hTot
  go_wp2_with fail
  refine (SKConfig_c s g C B L ls _ (h.ext ?hx)).mono ?_
  case hx => exact hE1.trans' (by (repeat' (first | exact Ext.refl _ | assumption | apply Ext.allocR | apply Ext.drewR | apply Ext.drewNR | (refine Ext.trans' ?_ (by assumption)))))
  rintro e w2 ⟨rfl, hx2⟩
  have hE2 : Ext w w2 := hE1.trans' (by (repeat' (first | exact Ext.refl _ | assumption | apply Ext.allocR | apply Ext.drewR | apply Ext.drewNR | (refine Ext.trans' ?_ (by assumption)))))
  clear hx2 hE1
  go_upto_region 5 with (fail)
  obtain ⟨w3, hw3⟩ : ∃ w3, w2.alloc (.cells Tryz.zeroCells232 232) = w3 := ⟨_, rfl⟩
  have hx3 : Ext w2 w3 := by rw [← hw3]; exact Ext.alloc' _ _
  have hb3 : w3.heap[w2.heap.size]? = some (.cells Tryz.zeroCells232 232 (0, 0)) := by rw [← hw3]; exact heap_at _ _ rfl
  rw [hw3]
  clear hw3
  have hE3 := hE2.trans' hx3
  have hzs : Tryz.zeroCells232.size = 120 := by kernel_rfl
  have hz0 : Tryz.zeroCells232[0]? = some (.int .i64 0) := by kernel_rfl
  have hz1 : Tryz.zeroCells232[1]? = some (.int .u64 0) := by kernel_rfl
  generalize Tryz.zeroCells232 = zc at *
  have z0 := (cell_of hb3 0).trans hz0
  have z1 := (cell_of hb3 1).trans hz1
  have f0 := frozen_of hb3 0
  have f1 := frozen_of hb3 1
  have zl := lt_of hb3
  have hbE := hE2.size
  generalize hbb : w2.heap.size = b at *
  have hw0 := way_set hb3 hzs (dn := []) (fun k hk => by simp at hk) (by simp) B 0
  simp only [List.length_nil, Nat.zero_mul, Nat.zero_add, List.nil_append] at hw0
  have hW0 : WayAtR w B C b pt k 0 k ((w3.setCell ⟨b, 0, none⟩ (.int .i64 (B : Nat))).setCell ⟨b, 1, none⟩ (.int .u64 0)) B 0 [(B, 0)] :=
    ⟨by omega, rfl, rfl, rfl, Int.le_refl 0, by have := keys_bd C hok B (Int.natCast_nonneg B); omega, by omega, hk, hw0.1, hw0.2, (hE3.setR (p := ⟨b, 0, none⟩) hbE _).setR (p := ⟨b, 1, none⟩) hbE _⟩
  rw [← HB.out] at hW0
  have HW0 := Lib.hid hW0
  clear hz0 hz1 hw0 hW0
  go_wp2
  go_step3
  go_wp2
  have HT := Lib.hid hT
  have HPI := Lib.hid hPI
  clear hT hPI
  go_loopw [1, 8] (fun u1 u8 wr => ∃ (t : Nat) (k' : Int) (n : Nat) (i : Int) (dn : List (Nat × Int)), u1 = .int .i64 k' ∧ u8 = .int .i64 t ∧ WayAtR w B C b pt k t k' wr n i dn) (fun _ u8 _ => B - (intOf u8).toNat)
  case atStart => exact ⟨0, k, B, 0, [(B, 0)], rfl, rfl, HW0.out⟩
  case round =>
    clear HW0
    obtain ⟨t, k', n, i, dn, rfl, rfl, hW⟩ := hrel
    obtain ⟨w1', w2', w3', w4', w5', w6', w7', w8', w9', w10', w11'⟩ := hW
    obtain ⟨cur, hcb, hcs⟩ := w9'
    have hp := w10' t (by omega)
    rw [w3', Nat.zero_add] at hp
    obtain ⟨q0, q1⟩ := hp
    have ql := lt_of hcb
    cases n with
    | zero =>
      have hdl : wayFP pt B k = some dn := by rw [w4']; simp [wayF]
      have hcl := fun W' (he : Ext wr W') => CloneP_c b (60 - 0) dn W' (w10'.ext ql he) (Nat.lt_of_lt_of_le ql he.size) (by omega)
      rw [w2'] at hcl
      have HDL := Lib.hid hdl
      have HCL := Lib.hid hcl
      have hsl := fun W' => run_slice60 b t (by omega) W'
      clear hdl hcl
      go_wp2_with fail
      refine (HCL.out _ (Ext.refl _)).mono ?_
      rintro e w5 ⟨v5, rfl, ho5, hx5⟩
      clear hsl
      go_wp2
      go_ret2
      exact .inr (.inr ⟨⟨by omega, by omega⟩, dn, v5, wr.heap.size, HDL.out, rfl, w11'.size, by rw [w2']; exact ho5, w11'.trans' hx5⟩)
    | succ m =>
      have hnn : ((m + 1 : Nat) : Int) = (m : Int) + 1 := by omega
      have hmb : ((m + 1 : Nat) : Int) ≤ C.bits := by have := HB.out; omega
      have hHV : ∀ W', Calls Tryz.prog 145 #[.int .i64 C.bits, .agg #[.int .i64 ((m : Int) + 1), .int .u64 i]] W' fun e w' => e = .returned (.tuple #[.agg #[.int .i64 m, .int .u64 (2 * i)], .agg #[.int .i64 m, .int .u64 (2 * i + 1)], .bool true]) ∧ Ext W' w' := fun W' => by
        have := Halves_c C hok m hmb i w5' w6' W'
        rw [hnn] at this
        exact this
      go_wp2_with fail
      refine (hHV _).mono ?_
      rintro e w4 ⟨rfl, hx4⟩
      clear hHV
      go_upto_region 9 with (fail)
      have hr4 : Ext wr w4 := by (repeat' (first | exact Ext.refl _ | assumption | apply Ext.allocR | apply Ext.drewR | apply Ext.drewNR | (refine Ext.trans' ?_ (by assumption))))
      have hkh := keys_half (C := C) (m := m) hmb
      have hl5 := (heap_old (w4.alloc (.cells #[.int .i64 m, .int .u64 (2 * i)] 39)) (.cells #[.int .i64 m, .int .u64 (2 * i + 1)] 39) (n := w4.heap.size) (by rw [size_alloc]; omega)).trans (heap_at w4 (.cells #[.int .i64 m, .int .u64 (2 * i)] 39) rfl)
      have hr5 := heap_at (w4.alloc (.cells #[.int .i64 m, .int .u64 (2 * i)] 39)) (.cells #[.int .i64 m, .int .u64 (2 * i + 1)] 39) (n := w4.heap.size + 1) (by rw [size_alloc])
      have hx5 : Ext w4 ((w4.alloc (.cells #[.int .i64 m, .int .u64 (2 * i)] 39)).alloc (.cells #[.int .i64 m, .int .u64 (2 * i + 1)] 39)) := (Ext.alloc' _ _).allocR _
      generalize (w4.alloc (.cells #[.int .i64 m, .int .u64 (2 * i)] 39)).alloc (.cells #[.int .i64 m, .int .u64 (2 * i + 1)] 39) = w5 at *
      have hE5 : Ext wr w5 := hr4.trans' hx5
      have v0 := (cell_of hl5 0).trans rfl
      have v1 := (cell_of hl5 1).trans rfl
      have vl := lt_of hl5
      clear hx4 hx5 hr4 q0 q1 ql
      have hK5 := h.ext (w11'.trans' hE5)
      have ht59 : t < 59 := by omega
      go_wp2_with fail
      refine Calls.mono (KPoint_c s g C B L ls _ hK5 m (by omega) (2 * i) (by omega) (by omega)) ?_
      rintro e w6 ⟨x, rfl, hpt, hx6⟩
      have hxp := HT.out m (2 * i) x (by omega) (by omega) (by omega) hpt
      have hpi := HPI.out m (2 * i)
      have hw4 := w4'
      have hE6 := hE5.trans' hx6
      have hl6 := hx6.keep hl5
      have hr6 := hx6.keep hr5
      have hc6 := hE6.keep hcb
      have hW : WayAtR w B C b pt k t k' wr (m + 1) i dn := ⟨w1', w2', w3', w4', w5', w6', w7', w8', ⟨cur, hcb, hcs⟩, w10', w11'⟩
      subst hxp
      have hn1 := fun (W' : World) (hE' : Ext wr W') (j k2 : Int) hj => way_nextR (j := j) (k2 := k2) hW hE' HB.out hBd hbE hj
      have HN1 := Lib.hid hn1
      obtain ⟨o0, ho0⟩ : ∃ o0, cur[(t + 1) * 2]? = some o0 := ⟨_, Array.getElem?_eq_getElem (by omega)⟩
      obtain ⟨o1, ho1⟩ : ∃ o1, cur[(t + 1) * 2 + 1]? = some o1 := ⟨_, Array.getElem?_eq_getElem (by omega)⟩
      have u0 := (cell_of hc6 ((t + 1) * 2)).trans ho0
      have u1 := (cell_of hc6 ((t + 1) * 2 + 1)).trans ho1
      have g0 := frozen_of hc6 ((t + 1) * 2)
      have g1 := frozen_of hc6 ((t + 1) * 2 + 1)
      have gl := lt_of hc6
      have v0 := (cell_of hl6 0).trans rfl
      have v1 := (cell_of hl6 1).trans rfl
      have vl := lt_of hl6
      have y0 := (cell_of hr6 0).trans rfl
      have y1 := (cell_of hr6 1).trans rfl
      have yl := lt_of hr6
      have HW4 := Lib.hid hw4
      clear hw4 w4' hn1 hW hpt hK5 hl5 hr5 w10' hcb hx6
      generalize hP : pt m (2 * i) = P at *
      by_cases hle : k' ≤ P
      · go_wp2_with fail
        go_roundw
        case rel => exact ⟨t + 1, k', m, 2 * i, dn ++ [(m, 2 * i)], rfl, by go_num, HN1.out _ hE6 _ _ (.inl ⟨rfl, hle, rfl⟩)⟩
        case measure => simp [intOf]; omega
      · have hkI : I64 k' := w8'
        have hM := Minus_c k' P hkI hpi
        by_cases hI : I64 (k' - P)
        rotate_left
        · rw [fitB_no hI] at hM
          have hno : wayFP pt B k = none := by
            rw [HW4.out]
            conv => lhs; unfold wayF
            rw [if_neg (by omega), if_neg (by rw [hP, fitB_no hI]; decide)]
            rfl
          have HNO := Lib.hid hno
          have HM := Lib.hid hM
          clear hM hno hI
          go_wp2_with fail
          refine (HM.out _).mono ?_
          rintro e w7 ⟨rfl, hx7⟩
          have hE7 : Ext w6 w7 := by (repeat' (first | exact Ext.refl _ | assumption | apply Ext.allocR | apply Ext.drewR | apply Ext.drewNR | (refine Ext.trans' ?_ (by assumption))))
          go_wp2
          go_ret2
          exact .inr (.inl ⟨⟨by omega, by omega⟩, HNO.out, rfl, w11'.trans' (hE6.trans' hE7)⟩)
        rw [fitB_yes hI, fitN_yes hI] at hM
        have HII := Lib.hid hI
        clear hI
        have HM := Lib.hid hM
        clear hM
        go_wp2_with fail
        refine (HM.out _).mono ?_
        rintro e w7 ⟨rfl, hx7⟩
        have hE7 : Ext w6 w7 := by (repeat' (first | exact Ext.refl _ | assumption | apply Ext.allocR | apply Ext.drewR | apply Ext.drewNR | (refine Ext.trans' ?_ (by assumption))))
        have hc7 := hE7.keep hc6
        have hr7 := hE7.keep hr6
        clear hx7 u0 u1 g0 g1 gl v0 v1 vl y0 y1 yl
        have u0 := (cell_of hc7 ((t + 1) * 2)).trans ho0
        have u1 := (cell_of hc7 ((t + 1) * 2 + 1)).trans ho1
        have g0 := frozen_of hc7 ((t + 1) * 2)
        have g1 := frozen_of hc7 ((t + 1) * 2 + 1)
        have gl := lt_of hc7
        have y0 := (cell_of hr7 0).trans rfl
        have y1 := (cell_of hr7 1).trans rfl
        have yl := lt_of hr7
        go_wp2_with fail
        go_roundw
        case rel => exact ⟨t + 1, k' - P, m, 2 * i + 1, dn ++ [(m, 2 * i + 1)], rfl, by go_num, HN1.out _ (hE6.trans' hE7) _ _ (.inr ⟨rfl, by omega, HII.out, rfl⟩)⟩
        case measure => simp [intOf]; omega
end Go.Proofs.YtfhdjekpdifajaaGreat
namespace Go.Proofs.YtfhdjekpdifajaaGreat
set_option linter.unusedVariables false
open Go.RowKit
def quanR (pt : Nat → Int → Int) (B : Nat) (T k : Int) : Int × Int := if k < 1 ∨ T < k then (0, 6) else match wayFP pt B k with | none => (0, 4) | some ps => ((ps.getD B (0, 0)).2, 0)
set_option maxRecDepth 20000 in
set_option maxHeartbeats 4000000 in
theorem Quan_of (s : Nat) (B : Nat) (hBd : B ≤ 59) (pt : Nat → Int → Int) (T k : Int) (w : World) (h : ∀ W', Ext w W' → Calls Tryz.prog 91 #[.pointer (some ⟨s, 0, none⟩), .int .i64 k] W' (WayRPost W' B T pt k)) :
    Calls Tryz.prog 33 #[.pointer (some ⟨s, 0, none⟩), .int .i64 k] w fun e w' => e = .returned (.tuple #[.int .u64 (quanR pt B T k).1, .int .i64 (quanR pt B T k).2]) ∧ Ext w w' := by
  have HW := Lib.hid h
  clear h
  go_enter Tryz.func33, Tryz.ntmps33
  go_wp2_with fail
  refine (HW.out _ (by (repeat' (first | exact Ext.refl _ | assumption | apply Ext.allocR | apply Ext.drewR | apply Ext.drewNR | (refine Ext.trans' ?_ (by assumption)))))).mono ?_
  rintro e w1 (⟨hr, rfl, hx⟩ | ⟨hr, hn, rfl, hx⟩ | ⟨hr, ps, v, base, hsm, rfl, hbs, ho, hx⟩)
  · have HQ : Hid (quanR pt B T k = (0, 6)) := Lib.hid (by unfold quanR; rw [if_pos hr])
    clear hr
    go_wp2
    go_ret2
    exact ⟨by rw [HQ.out]; rfl, by (repeat' (first | exact Ext.refl _ | assumption | apply Ext.allocR | apply Ext.drewR | apply Ext.drewNR | (refine Ext.trans' ?_ (by assumption))))⟩
  · have HQ : Hid (quanR pt B T k = (0, 4)) := Lib.hid (by unfold quanR; rw [if_neg (by omega), hn])
    clear hr hn
    go_wp2
    go_ret2
    exact ⟨by rw [HQ.out]; rfl, by (repeat' (first | exact Ext.refl _ | assumption | apply Ext.allocR | apply Ext.drewR | apply Ext.drewNR | (refine Ext.trans' ?_ (by assumption))))⟩
  · have hlen := wayFP_len hsm
    have HQ : Hid (quanR pt B T k = ((ps.getD B (0, 0)).2, 0)) := Lib.hid (by unfold quanR; rw [if_neg (by omega), hsm])
    obtain ⟨g', cap, rfl, hgl, hpc⟩ := own_pieces ho (by omega)
    obtain ⟨_, q1⟩ := hpc B (by omega)
    rw [Nat.zero_add] at q1
    have hE : Ext w w1 := by (repeat' (first | exact Ext.refl _ | assumption | apply Ext.allocR | apply Ext.drewR | apply Ext.drewNR | (refine Ext.trans' ?_ (by assumption))))
    clear ho hpc hx hr hsm
    rw [hlen]
    clear hlen
    go_wp2
    go_ret2
    exact ⟨by rw [HQ.out]; rfl, hE⟩
end Go.Proofs.YtfhdjekpdifajaaGreat
namespace Go.Proofs.YtfhdjekpdifajaaGreat
set_option linter.unusedVariables false
open Go.RowKit
/-- The pairs that a stack is told. -/
def psU (C : Cfg) (us : List (Int × Int)) : List (Int × Int) := stP C 0 (fus us 0 60)
open Classical in
/-- What a piece is told. -/
noncomputable def ptK (C : Cfg) (B : Nat) (us : List (Int × Int)) (n : Nat) (i : Int) : Int :=
  if h : n ≤ B ∧ 0 ≤ i ∧ i < keys C n ∧ ∃ x, lvPt C n (feedK C (fus us 0 60) n) i x then Classical.choose h.2.2.2 else pcS (psU C us) n i
theorem ptK_of {C : Cfg} {B : Nat} {us : List (Int × Int)} {n : Nat} {i x : Int} (hn : n ≤ B) (h0 : 0 ≤ i) (h1 : i < keys C n) (h : lvPt C n (feedK C (fus us 0 60) n) i x) : x = ptK C B us n i := by
  have hx : n ≤ B ∧ 0 ≤ i ∧ i < keys C n ∧ ∃ x, lvPt C n (feedK C (fus us 0 60) n) i x := ⟨hn, h0, h1, x, h⟩
  unfold ptK
  rw [dif_pos hx]
  exact lvPt_unique h (Classical.choose_spec hx.2.2.2)
theorem hasK_pc (C : Cfg) (us : List (Int × Int)) (n : Nat) (j : Int) : hasK C us 60 n j = pcS (psU C us) n j := by
  unfold hasK hasP pcS psU
  exact sumIf_stP C n _ _
/-- Of an exact level. -/
theorem ptK_x {C : Cfg} (hok : C.Ok) {B : Nat} (hB : C.bits = B) {us : List (Int × Int)} (hus : UpsOk us) {n : Nat} (hn : n ≤ B) {i : Int} (h0 : 0 ≤ i) (h1 : i < keys C n) (hx : isX C n = true) : ptK C B us n i = pcS (psU C us) n i := by
  have h : lvPt C n (feedK C (fus us 0 60) n) i ((feedK C (fus us 0 60) n).getD i.toNat 0) := .inl ⟨hx, rfl⟩
  rw [← ptK_of hn h0 h1 h, ← hasK_pc]
  exact pt_x hok (by omega) hus hx h0 h
end Go.Proofs.YtfhdjekpdifajaaGreat
namespace Go.Proofs.YtfhdjekpdifajaaGreat
set_option linter.unusedVariables false
open Go.RowKit
/-- A way, or none. -/
def PAt (w : World) (v : Value) (ps : List (Nat × Int)) : Prop := (v = .slice none 0 0 ∧ ps = []) ∨ (0 < ps.length ∧ ps.length ≤ 60 ∧ ∃ g c, v = .slice (some ⟨g, 0, none⟩) ps.length c ∧ g < w.heap.size ∧ PCells w g 0 ps)
theorem PAt.ext {w w' : World} {v : Value} {ps : List (Nat × Int)} (h : PAt w v ps) (he : Ext w w') : PAt w' v ps :=
  h.imp id (fun ⟨h0, h1, g, c, hv, hg, hp⟩ => ⟨h0, h1, g, c, hv, Nat.lt_of_lt_of_le hg he.size, hp.ext hg he⟩)
section
variable {N : Nat} {w w' : World} {C : Cfg} {B s r : Nat} {ls : Nat → List Int}
end
end Go.Proofs.YtfhdjekpdifajaaGreat
namespace Go.Proofs.YtfhdjekpdifajaaGreat
set_option linter.unusedVariables false
open Go.RowKit
abbrev Opn := Int × Int × Int
def OpsAt (w : World) (v : Value) (os : List Opn) : Prop :=
  ((∃ p, v = .slice p 0 0) ∧ os = []) ∨ ∃ g off cap, v = .slice (some ⟨g, off, none⟩) os.length cap ∧ g < w.heap.size ∧
    ∀ k, k < os.length → w.cell? ⟨g, off + k * 3, none⟩ = some (.int .i64 (os.getD k (0, 0, 0)).1) ∧ w.cell? ⟨g, off + k * 3 + 1, none⟩ = some (.int .u64 (os.getD k (0, 0, 0)).2.1) ∧ w.cell? ⟨g, off + k * 3 + 2, none⟩ = some (.int .i64 (os.getD k (0, 0, 0)).2.2)
theorem OpsAt.ext {w w' : World} {v : Value} {os : List Opn} (h : OpsAt w v os) (he : Ext w w') : OpsAt w' v os := by
  rcases h with h | ⟨g, off, cap, h1, h2, h3⟩
  · exact .inl h
  · exact .inr ⟨g, off, cap, h1, Nat.lt_of_lt_of_le h2 he.size, fun k hk => ⟨((bcell he).1 _ _ h2).trans (h3 k hk).1, ((bcell he).1 _ _ h2).trans (h3 k hk).2.1, ((bcell he).1 _ _ h2).trans (h3 k hk).2.2⟩⟩
theorem OpsAt.sl {w : World} {v : Value} {os : List Opn} (h : OpsAt w v os) : ∃ p c, v = .slice p os.length c := by
  rcases h with ⟨⟨p, rfl⟩, rfl⟩ | ⟨g, off, cap, rfl, _⟩
  · exact ⟨p, 0, rfl⟩
  · exact ⟨_, cap, rfl⟩
theorem OpsAt.one {w : World} {p : Option Addr} {n c : Nat} {os : List Opn} (h : OpsAt w (.slice p n c) os) {k : Nat} (hk : k < os.length) :
    ∃ g off, p = some ⟨g, off, none⟩ ∧ g < w.heap.size ∧ w.cell? ⟨g, off + k * 3, none⟩ = some (.int .i64 os[k].1) ∧ w.cell? ⟨g, off + k * 3 + 1, none⟩ = some (.int .u64 os[k].2.1) ∧ w.cell? ⟨g, off + k * 3 + 2, none⟩ = some (.int .i64 os[k].2.2) := by
  rcases h with ⟨_, rfl⟩ | ⟨g, off, cap, h1, h2, h3⟩
  · exact absurd hk (Nat.not_lt_zero _)
  · have e := Value.slice.inj h1
    have hg : os.getD k (0, 0, 0) = os[k] := by simp [hk]
    have := h3 k hk
    rw [hg] at this
    exact ⟨g, off, e.1, h2, this⟩
end Go.Proofs.YtfhdjekpdifajaaGreat
namespace Go.Proofs.YtfhdjekpdifajaaGreat
set_option linter.unusedVariables false
open Go.RowKit
def MadePost (w : World) (C : Cfg) (e : Ending) (w' : World) : Prop :=
  ∃ (B s r N : Nat) (y : Nat → List Int), e = .returned (.tuple #[.pointer (some ⟨s, 0, none⟩), .pointer (some ⟨r, 0, none⟩)]) ∧ C.bits = B ∧ C.Ok ∧ KP N w' C B s r y y ∧ w.heap.size ≤ N ∧ Ext w w'
set_option maxRecDepth 20000 in
set_option maxHeartbeats 16000000 in
theorem Made_c (nb : Int) (hnb : nb = 5 ∨ nb = 6) (x : Cfg) (hx : x.Raw) (us : List (Int × Int)) (hus : UpsOk us) (v : Value) (w : World) (hv : UpsAt w v us) (hul : us.length ≤ 140737488355328) :
    Calls Tryz.prog 70 #[.agg #[.int .i64 x.bits, .int .i64 x.rows, .int .i64 x.width, .int .i64 x.mode, .int .u64 x.seed, v], .int .i64 nb] w (MadePost w (mkC x nb 9)) := by
  obtain ⟨vp, vc, rfl⟩ := hv.sl
  have HV := Lib.hid hv
  have hANY := fun W => Any_c x hx nb 9 (by omega) (by omega) (by decide) (by decide) W
  have hok := mkC_ok x hx.s (nb := nb) (nw := 9) (by omega) (by omega) (by decide) (by decide)
  have hT1 := heap_at w (.cells #[.int .i64 x.bits, .int .i64 x.rows, .int .i64 x.width, .int .i64 x.mode, .int .u64 x.seed, .slice vp us.length vc] 107) rfl
  have hE1 : Ext w (w.alloc (.cells #[.int .i64 x.bits, .int .i64 x.rows, .int .i64 x.width, .int .i64 x.mode, .int .u64 x.seed, .slice vp us.length vc] 107)) := Ext.alloc' _ _
  clear hv
  generalize mkC x nb 9 = C at *
  have HANY := Lib.hid hANY
  have HT1 := Lib.hid hT1
  have HE1 := Lib.hid hE1
  clear hANY hT1 hE1
  go_enter Tryz.func70, Tryz.ntmps70
  go_wp2_with fail
  refine Calls.mono (HANY.out _) ?_
  rintro e w2 ⟨rfl, hx2⟩
  have hE2 := HE1.out.trans' hx2
  have hT2 := hx2.keep HT1.out
  have hb1 := hok.b1
  have hb2 := hok.b2
  have HT2 := Lib.hid hT2
  clear hx2 hT2 HT1 HE1 HANY
  obtain ⟨B, hB⟩ : ∃ B : Nat, C.bits = B := ⟨C.bits.toNat, by omega⟩
  have hBt : C.bits.toNat = B := by omega
  have HBB := Lib.hid (And.intro hb1 (And.intro hb2 hB))
  have HKN := Lib.hid (fun W' => KNew_c C hok W')
  have HRN := Lib.hid (fun W' => RKNew_c C hok B hB W')
  have HBT := Lib.hid hBt
  clear hB hBt
  go_upto_region 2 with (fail)
  obtain ⟨w3, hw3⟩ : ∃ w3, w2.alloc (.cells #[.int .i64 C.bits, .int .i64 C.rows, .int .i64 C.width, .int .i64 C.mode, .int .u64 C.seed] 24) = w3 := ⟨_, rfl⟩
  have hQ : w3.heap[w2.heap.size]? = some (.cells #[.int .i64 C.bits, .int .i64 C.rows, .int .i64 C.width, .int .i64 C.mode, .int .u64 C.seed] 24 (0, 0)) := by rw [← hw3]; exact heap_at _ _ rfl
  have hE3 : Ext w w3 := by rw [← hw3]; exact hE2.allocR _
  have hE23 : Ext w2 w3 := by rw [← hw3]; exact Ext.alloc' _ _
  have hT3 := hE23.keep HT2.out
  have HT3 := Lib.hid hT3
  try rw [hw3]
  have HE3 := Lib.hid hE3
  have HQ := Lib.hid hQ
  have hC3 := CfgAt.of hQ
  clear hw3 hE2 HT2 hE23 hT3 hb1 hb2
  have c0 := hC3.c0
  have c1 := hC3.c1
  have c2 := hC3.c2
  have c3 := hC3.c3
  have c4 := hC3.c4
  have cl := hC3.lt
  clear hC3 hQ hE3
  go_wp2_with fail
  refine (HKN.out _).mono ?_
  rintro e w4 ⟨s, g, L, rfl, hK, s1, s2, hF, hx4⟩
  rw [HBT.out] at hK hF
  have HK := Lib.hid hK
  have HF := Lib.hid (show KFresh w3.heap.size B L from hF)
  have HS := Lib.hid (And.intro s1 s2)
  have HX4 := Lib.hid hx4
  have hC4 := CfgAt.of (hx4.keep HQ.out)
  clear c0 c1 c2 c3 c4 cl hK hF s1 s2 hx4
  have c0 := hC4.c0
  have c1 := hC4.c1
  have c2 := hC4.c2
  have c3 := hC4.c3
  have c4 := hC4.c4
  have cl := hC4.lt
  clear hC4
  go_wp2_with fail
  refine (HRN.out _).mono ?_
  rintro e w5 ⟨r, t, L2, rfl, hR, hRF, hx5⟩
  have hE35 := HX4.out.trans' hx5
  have hKP : KP w3.heap.size w5 C B s r (fun n => zs (lvN C n)) (fun n => zs (lvN C n)) := ⟨g, L, t, L2, w4.heap.size, HK.out.ext hx5, HK.out.low, HF.out, hR, hRF, HX4.out.size, hx5.size⟩
  have HKP := Lib.hid hKP
  clear c0 c1 c2 c3 c4 cl hR hRF hx5 hKP HK HF HS HX4 HKN HRN
  obtain ⟨N, hN⟩ : ∃ N, w3.heap.size = N := ⟨_, rfl⟩
  have hwN : w.heap.size ≤ N := by rw [← hN]; exact HE3.out.size
  rw [hN] at HKP
  have HBN : Hid (w.heap.size < N) := Lib.hid (by rw [← hN]; exact lt_of HT3.out)
  have HN := Lib.hid hN
  clear hN
  go_wp2_with fail
  go_loopw [10] (fun u wr => ∃ (k : Nat) (y : Nat → List Int), k ≤ 30 ∧ k ≤ us.length ∧ u = .int .i64 k ∧ Ext w3 wr ∧ KP N wr C B s r y y) (fun u _ => 30 - (intOf u).toNat)
  case atStart => exact ⟨0, _, Nat.zero_le _, Nat.zero_le _, rfl, hE35, HKP.out⟩
  case round =>
    clear hE35 HKP
    obtain ⟨k, y, hk30, hkl, rfl, hE, hS⟩ := hrel
    have HS := Lib.hid hS
    have hT := hE.keep HT3.out
    have b6 := (cell_of hT 5).trans rfl
    have bl := lt_of hT
    clear hS hT
    by_cases hgo : k < us.length ∧ k < 30
    · obtain ⟨hg1, hg2⟩ := hgo
      obtain ⟨ug, off, hvp, hul0, d1', d2'⟩ := HV.out.one hg1
      subst hvp
      have hEw := HE3.out.trans' hE
      have d1 := ((bcell hEw).1 _ _ hul0).trans d1'
      have d2 := ((bcell hEw).1 _ _ hul0).trans d2'
      have gl := Nat.lt_of_lt_of_le hul0 hEw.size
      have hugN : ug < N := Nat.lt_of_lt_of_le hul0 hwN
      have hu := hus _ (List.getElem_mem hg1)
      generalize us[k] = oo at *
      obtain ⟨uk, ud⟩ := oo
      obtain ⟨hukU, hudI⟩ := hu
      have HUK := Lib.hid hukU
      have HUD := Lib.hid hudI
      have HER := Lib.hid hE
      obtain ⟨S, hS⟩ : ∃ S : Nat → Prop, (fun k => N ≤ k) = S := ⟨_, rfl⟩
      have HSS := Lib.hid hS
      have ns1 : ¬ S ug := by rw [← hS]; show ¬ N ≤ ug; omega
      have ns2 : ¬ S w.heap.size := by rw [← hS]; show ¬ N ≤ w.heap.size; have := HBN.out; omega
      clear hS
      clear d1' d2' hukU hudI hEw hE
      go_wp2_with fail
      have hC0 := afs_drew S wr
      refine pi_start (fun w' => ∃ x : AftS S wr, w' = x.w) [] (by kernel_rfl) ?_
      refine pi_t 0 rfl (by kernel_rfl) (by kernel_rfl) (fun _ _ _ _ h => h) (fun K hK => ?_)
      go_big_quiet_op
      refine hK _ ?_
      clear hK K
      refine pi_t 1 rfl (by kernel_rfl) (by kernel_rfl) (fun _ _ _ _ h => h) (fun K hK => ?_)
      go_big_quiet_op
      refine hK _ ?_
      clear hK K
      refine pi_t 3 rfl (by kernel_rfl) (by kernel_rfl) (fun _ _ _ _ h => h) (fun K hK => ?_)
      go_big_quiet_op
      refine hK _ ?_
      clear hK K
      refine pi_t 7 rfl (by kernel_rfl) (by kernel_rfl) (fun _ _ _ _ h => h) (fun K hK => ?_)
      go_big_quiet_op
      refine hK _ ?_
      clear hK K
      refine pi_t 9 rfl (by kernel_rfl) (by kernel_rfl) (fun _ _ _ _ h => h) (fun K hK => ?_)
      go_big_quiet_op
      refine hK _ ?_
      clear hK K
      refine pi_c 2 (by assumption) rfl (by kernel_rfl) (by kernel_rfl) (fun _ _ _ _ h => h) (fun K hK => ?_)
      go_big_quiet_op
      refine hK _ ?_
      clear hK K
      refine pi_t 4 rfl (by kernel_rfl) (by kernel_rfl) (fun _ _ _ _ h => h) (fun K hK => ?_)
      go_big_quiet_op
      refine hK _ ?_
      clear hK K
      refine pi_t 5 rfl (by kernel_rfl) (by kernel_rfl) (fun _ _ _ _ h => h) (fun K hK => ?_)
      go_big_quiet_op
      refine hK _ ?_
      clear hK K
      refine pi_c 6 (by assumption) rfl (by kernel_rfl) (by kernel_rfl) (fun _ _ _ _ h => h) (fun K hK => ?_)
      go_big_quiet_op
      refine hK _ ?_
      clear hK K
      refine pi_c 8 (by assumption) rfl (by kernel_rfl) (by kernel_rfl) (fun _ _ _ _ h => h) (fun K hK => ?_)
      go_big_quiet_op
      refine hK _ ?_
      clear hK K
      refine pi_t 10 rfl (by kernel_rfl) (by kernel_rfl) (fun _ _ _ _ h => h) (fun K hK => ?_)
      go_big_quiet_op
      refine hK _ ?_
      clear hK K
      refine pi_t 11 rfl (by kernel_rfl) (by kernel_rfl) (fun _ _ _ _ h => h) (fun K hK => ?_)
      go_big_quiet_op
      refine hK _ ?_
      clear hK K
      refine pi_c 12 (by assumption) rfl (by kernel_rfl) (by kernel_rfl) (fun _ _ _ _ h => h) (fun K hK => ?_)
      go_big_quiet_op
      refine hK _ ?_
      clear hK K
      refine pi_l 13 rfl (by kernel_rfl) (fun K hK => ?_)
      go_wp2_with (go_at_call 26; refine Calls.mono (KP_upd (HS.out.ext (Below.drew (Ext.refl wr))) uk ud HUK.out HUD.out) ?_; rintro e w8 ⟨rfl, hQ8, hB8⟩)
      have hB8' : Below N wr w8 := Below.trans (below_of (Below.drew (Ext.refl wr)) (by have := HER.out.size; have := HN.out; omega)) hB8
      refine hK _ _ (fun _ _ => ⟨⟨w8, by rw [← HSS.out]; exact mod_below hB8'⟩, rfl⟩) ?_
      clear hK K
      have HQ8 := Lib.hid hQ8
      have HB8 := Lib.hid hB8'
      have e1' := cell_below hB8' hugN d1
      have e2' := cell_below hB8' hugN d2
      have b6' := cell_below hB8' HBN.out b6
      have gl8 := Nat.lt_of_lt_of_le gl hB8'.size
      have bl8 := Nat.lt_of_lt_of_le bl hB8'.size
      clear hQ8 hB8 hB8' d1 d2 b6
      refine pi_end (by kernel_rfl) ?_
      go_wp2_with fail
      have hC0 := afs_drew S w8
      refine pi_start (fun w' => ∃ x : AftS S w8, w' = x.w) [] (by kernel_rfl) ?_
      refine pi_t 0 rfl (by kernel_rfl) (by kernel_rfl) (fun _ _ _ _ h => h) (fun K hK => ?_)
      go_big_quiet_op
      refine hK _ ?_
      clear hK K
      refine pi_t 1 rfl (by kernel_rfl) (by kernel_rfl) (fun _ _ _ _ h => h) (fun K hK => ?_)
      go_big_quiet_op
      refine hK _ ?_
      clear hK K
      refine pi_t 3 rfl (by kernel_rfl) (by kernel_rfl) (fun _ _ _ _ h => h) (fun K hK => ?_)
      go_big_quiet_op
      refine hK _ ?_
      clear hK K
      refine pi_t 7 rfl (by kernel_rfl) (by kernel_rfl) (fun _ _ _ _ h => h) (fun K hK => ?_)
      go_big_quiet_op
      refine hK _ ?_
      clear hK K
      refine pi_t 9 rfl (by kernel_rfl) (by kernel_rfl) (fun _ _ _ _ h => h) (fun K hK => ?_)
      go_big_quiet_op
      refine hK _ ?_
      clear hK K
      refine pi_c 2 (by assumption) rfl (by kernel_rfl) (by kernel_rfl) (fun _ _ _ _ h => h) (fun K hK => ?_)
      go_big_quiet_op
      refine hK _ ?_
      clear hK K
      refine pi_t 4 rfl (by kernel_rfl) (by kernel_rfl) (fun _ _ _ _ h => h) (fun K hK => ?_)
      go_big_quiet_op
      refine hK _ ?_
      clear hK K
      refine pi_t 5 rfl (by kernel_rfl) (by kernel_rfl) (fun _ _ _ _ h => h) (fun K hK => ?_)
      go_big_quiet_op
      refine hK _ ?_
      clear hK K
      refine pi_c 6 (by assumption) rfl (by kernel_rfl) (by kernel_rfl) (fun _ _ _ _ h => h) (fun K hK => ?_)
      go_big_quiet_op
      refine hK _ ?_
      clear hK K
      refine pi_c 8 (by assumption) rfl (by kernel_rfl) (by kernel_rfl) (fun _ _ _ _ h => h) (fun K hK => ?_)
      go_big_quiet_op
      refine hK _ ?_
      clear hK K
      refine pi_t 10 rfl (by kernel_rfl) (by kernel_rfl) (fun _ _ _ _ h => h) (fun K hK => ?_)
      go_big_quiet_op
      refine hK _ ?_
      clear hK K
      refine pi_t 11 rfl (by kernel_rfl) (by kernel_rfl) (fun _ _ _ _ h => h) (fun K hK => ?_)
      go_big_quiet_op
      refine hK _ ?_
      clear hK K
      refine pi_c 12 (by assumption) rfl (by kernel_rfl) (by kernel_rfl) (fun _ _ _ _ h => h) (fun K hK => ?_)
      go_big_quiet_op
      refine hK _ ?_
      clear hK K
      refine pi_l 13 rfl (by kernel_rfl) (fun K hK => ?_)
      go_wp2_with (go_at_call 27; refine Calls.mono (KP_rupd (HQ8.out.ext (Below.drew (Ext.refl w8))) uk ud HUK.out HUD.out) ?_; rintro e w9 ⟨rfl, hQ9, hB9⟩)
      have hB89 : Below N w8 w9 := Below.trans (below_of (Below.drew (Ext.refl w8)) (by have := HER.out.size; have := HN.out; have := HB8.out.size; omega)) hB9
      refine hK _ _ (fun _ _ => ⟨⟨w9, by rw [← HSS.out]; exact mod_below hB89⟩, rfl⟩) ?_
      clear hK K
      have HQ9 := Lib.hid hQ9
      have hB9' : Below N wr w9 := Below.trans HB8.out hB89
      have hE9 : Ext w3 w9 := Below.trans HER.out (by rw [HN.out]; exact hB9')
      clear hQ9 hB9 hB9' hB89 e1' e2' b6'
      refine pi_end (by kernel_rfl) ?_
      go_wp2
      go_roundw
      case rel => exact ⟨k + 1, _, by omega, by omega, by go_num, hE9, HQ9.out⟩
      case measure => simp [intOf]; omega
    · have hge : ¬ k < us.length ∨ ¬ k < 30 := by omega
      clear hgo
      rename World => wo
      go_upto_region 7 with (fail)
      go_cut [37] (fun s74 wx => s74 = .bool false ∧ wx = wo)
      case first =>
        by_cases hgl : k < us.length
        · have hg6 : ¬ k < 30 := by omega
          go_wp2_with fail
          go_meet
          exact ⟨by first | rfl | exact congrArg Value.bool (decide_eq_false (by omega)), rfl⟩
        · first
            | (go_wp2_with fail
               go_meet
               exact ⟨rfl, rfl⟩)
            | (clear hge
               go_wp2_with fail
               go_meet
               exact ⟨by first | rfl | exact congrArg Value.bool (decide_eq_false (by omega)), rfl⟩)
      case rest =>
        obtain ⟨rfl, rfl⟩ := hcut
        clear hge b6 bl hkl hk30
        have HE := Lib.hid (HE3.out.trans' hE)
        have HFIN := Lib.hid (And.intro HBB.out.2.2 (And.intro hok HS.out))
        clear hE
        go_wp2
        go_ret2
        exact ⟨B, s, r, N, y, rfl, HFIN.out.1, HFIN.out.2.1, HFIN.out.2.2, hwN, HE.out⟩
end Go.Proofs.YtfhdjekpdifajaaGreat
namespace Go.Proofs.YtfhdjekpdifajaaGreat
set_option linter.unusedVariables false
open Go.RowKit
section
variable {P : Program}
/-- 's = append(s, ..)', the new ones in a block that was laid just now. -/
theorem wpList_appK (W : World) {ops : Array Oper} {rest : List Oper} {o : Oper} {a : Act} {Q : Exit → Act → World → Prop} (size by_ m : Nat) (hsz : 0 < size) (hby : by_ ≤ 64) (news : List Value) (hnl : news.length = m * size) (h1 : ∀ u ∈ news, u.oneCell' = true)
    (xs : List Value) (n : Nat) (v : Value) (base : Nat) (e e' : TypeId) (hown : W.ownsRow base e size v n xs) (t : TypeId)
    (hgd : o.guard = none) (s y : Operand) (ho : o.op = .call { callee := .builtin .append, args := #[s, y], argTypes := #[t, t] })
    (hinfo : ∃ i z, P.info? e = some i ∧ i.zero = some z ∧ i.size = size ∧ i.bytes = by_ ∧ z.cells.size = size) (ht : P.underlying t = some (.slice e))
    (cells : Array Value) (hcl : cells.toList = news)
    (hs : a.eval s = v) (hx : a.eval y = .slice (some ⟨W.heap.size, 0, none⟩) m m)
    (hl : n + m ≤ 1000000000) (hbase : base ≤ W.heap.size)
    (h : ∀ v' w', w'.ownsRow base e size v' (n + m) (xs ++ news) → (W.alloc (.cells cells e')).grownBy w' v.ownBlock → (v'.ownBlock = v.ownBlock ∨ v'.ownBlock = some (W.heap.size + 1)) → wpList P ops Q rest (a.put o.dst v') w') :
    wpList P ops Q (o :: rest) a (W.alloc (.cells cells e')) := by
  obtain ⟨i0, z, hi, hz0, hz1, hz2, hz3⟩ := hinfo
  refine wpList_append_sep _ hgd s y t ho base e i0 z size by_ ht hi hz0 hz1 hz2 hz3 hsz v n xs hs (hown.alloc _) ⟨W.heap.size, 0, none⟩ m m news hx hnl ?_ h1 (by unfold maxLen; omega) ?_ (by rw [size_alloc]; omega) ?_
  · intro j u hu
    rw [show (⟨W.heap.size, 0, none⟩ : Addr).add j = ⟨W.heap.size, j, none⟩ by (simp [Addr.add]; try omega), cell_of (heap_at W _ rfl) j, ← Array.getElem?_toList, hcl]
    exact hu
  · have h2 : (n + m) * by_ ≤ 1000000000 * 64 := Nat.mul_le_mul hl hby
    omega
  · intro v' w' h1 h2 h3
    rw [size_alloc] at h3
    exact h v' w' h1 h2 h3
end
theorem own_grownT {W W' : World} {bA bB nA nB sA sB : Nat} {eA eB : TypeId} {vA vB : Value} {xA xB : List Value} (hA : W.ownsRow bA eA sA vA nA xA) (hB : W.ownsRow bB eB sB vB nB xB) (hne : eA ≠ eB) (hg : W.grownBy W' vB.ownBlock) : W'.ownsRow bA eA sA vA nA xA :=
  own_keepB hA fun k hk => hg.block k (own_lt hA hk) fun e => by
    obtain ⟨c1, h1⟩ := own_type hA hk
    obtain ⟨c2, h2⟩ := own_type hB e.symm
    rw [h1] at h2
    cases h2
    exact hne rfl
/-- A row that was there before another one's base. -/
theorem own_grownL {W W' : World} {bA bB nA nB sA sB : Nat} {eA eB : TypeId} {vA vB : Value} {xA xB : List Value} (hA : W.ownsRow bA eA sA vA nA xA) (hB : W.ownsRow bB eB sB vB nB xB) (hlt : ∀ k, vA.ownBlock = some k → k < bB) (hg : W.grownBy W' vB.ownBlock) : W'.ownsRow bA eA sA vA nA xA :=
  own_keepB hA fun k hk => hg.block k (own_lt hA hk) fun e => by
    have h1 := hlt k hk
    rcases hB.2 with ⟨rfl, _⟩ | ⟨g, cap, cur, rfl, hb, _⟩
    · cases e
    · have : k = g := Option.some.inj e
      omega
theorem own_bmono {w : World} {base base' n size : Nat} {e : TypeId} {v : Value} {xs : List Value} (h : w.ownsRow base e size v n xs) (hb : base' ≤ base) : w.ownsRow base' e size v n xs := by
  obtain ⟨h1, h2⟩ := h
  refine ⟨h1, ?_⟩
  rcases h2 with h2 | ⟨g, cap, cur, h3, h4, h5⟩
  · exact .inl h2
  · exact .inr ⟨g, cap, cur, h3, Nat.le_trans hb h4, h5⟩
theorem own_geB {w : World} {base n size : Nat} {e : TypeId} {v : Value} {xs : List Value} (h : w.ownsRow base e size v n xs) {k : Nat} (hk : v.ownBlock = some k) : base ≤ k := by
  rcases h.2 with ⟨rfl, _⟩ | ⟨g, cap, cur, rfl, hb, _⟩
  · cases hk
  · have : g = k := Option.some.inj hk
    omega
/-- What is laid in one piece is a row. -/
theorem own_newK (w : World) (base : Nat) (hb : base ≤ w.heap.size) (e : TypeId) (size n : Nat) (cells : Array Value) (hn : n ≤ maxLen) (hc : cells.size = n * size) : (w.alloc (.cells cells e)).ownsRow base e size (.slice (some ⟨w.heap.size, 0, none⟩) n n) n cells.toList := by
  refine ⟨by rw [Array.length_toList]; exact hc, .inr ⟨w.heap.size, n, cells, rfl, hb, heap_at w _ rfl, Nat.le_refl _, hn, hc, ?_⟩⟩
  rw [← hc, ← Array.length_toList, List.take_length]
theorem own_row_cells {w : World} {base n size : Nat} {e : TypeId} {v : Value} {xs : List Value} (h : w.ownsRow base e size v n xs) (hn : 0 < n) : ∃ g cap, v = .slice (some ⟨g, 0, none⟩) n cap ∧ base ≤ g ∧ g < w.heap.size ∧ ∀ j, j < n * size → w.cell? ⟨g, j, none⟩ = xs[j]? := by
  rcases h.2 with ⟨_, h0⟩ | ⟨g, cap, cur, rfl, hb, hh, hc, hm, hs, ht⟩
  · omega
  · refine ⟨g, cap, rfl, hb, lt_of hh, fun j hj => ?_⟩
    rw [cell_of hh, ← ht, List.getElem?_take_of_lt hj, Array.getElem?_toList]
end Go.Proofs.YtfhdjekpdifajaaGreat
namespace Go.Proofs.YtfhdjekpdifajaaGreat
set_option linter.unusedVariables false
open Go.RowKit
def sF (s b c : Nat) (k : Nat) : Prop := k = s ∨ k = b ∨ k = c
theorem SAt.own {w : World} {s b c : Nat} {C : Cfg} {lv : Int} {R W : Nat} {l : List Int} (h : SAt w s b c C lv R W l) : Own (sF s b c) (fun w => SAt w s b c C lv R W l) w :=
  ⟨h, fun w w' h hk => h.keep (hk s (.inl rfl)) (hk b (.inr (.inl rfl))) (hk c (.inr (.inr rfl))), fun k hk => by
    rcases hk with rfl | rfl | rfl
    · exact h.lts
    · exact h.g.ltb
    · exact h.g.ltc⟩
/-- Two sketches, and two of the references. -/
def Q4 (N : Nat) (w : World) (C : Cfg) (lv : Int) (R W : Nat) (s o r q : Nat) (l m l' m' : List Int) : Prop :=
  ∃ b c b2 c2 G G2, Own4 N w (sF s b c) (sF o b2 c2) (rsF r G R) (rsF q G2 R) (fun w => SAt w s b c C lv R W l) (fun w => SAt w o b2 c2 C lv R W m) (fun w => RSAt w r G C lv R W l') (fun w => RSAt w q G2 C lv R W m')
section
variable {N : Nat} {w w' : World} {C : Cfg} {lv : Int} {R W : Nat} {s o r q : Nat} {l m l' m' : List Int}
theorem Q4.ext (h : Q4 N w C lv R W s o r q l m l' m') (he : Ext w w') : Q4 N w' C lv R W s o r q l m l' m' := by
  obtain ⟨b, c, b2, c2, G, G2, h⟩ := h
  exact ⟨b, c, b2, c2, G, G2, h.ext he⟩
/-- What a reference's sketch points to. -/
theorem Q4.grid (h : Q4 N w C lv R W s o r q l m l' m') : ∃ G : Gr, r < w.heap.size ∧ w.cell? ⟨r, 6, none⟩ = some (.pointer (some ⟨G.g, 0, none⟩)) ∧ RGAt w G R W l' := by
  obtain ⟨b, c, b2, c2, G, G2, h⟩ := h
  exact ⟨G, h.o3.h.lts, (cell_of h.o3.h.ex 6).trans rfl, h.o3.h.g⟩
end
end Go.Proofs.YtfhdjekpdifajaaGreat
namespace Go.Proofs.YtfhdjekpdifajaaGreat
set_option linter.unusedVariables false
open Go.RowKit
/-- The blocks of a stack. -/
def kF (s g B : Nat) (L : Nat → Lev) (k : Nat) : Prop := k = s ∨ k = g ∨ ∃ n, n ≤ B ∧ (k = (L n).s ∨ k = (L n).b ∨ k = (L n).c)
theorem KAt.keep {w w' : World} {s g : Nat} {C : Cfg} {B : Nat} {L : Nat → Lev} {ls : Nat → List Int} (h : KAt w s g C B L ls) (hk : ∀ k, kF s g B L k → w'.heap[k]? = w.heap[k]?) : KAt w' s g C B L ls :=
  ⟨by rw [hk s (.inl rfl)]; exact h.ex, by rw [hk g (.inr (.inl rfl))]; exact h.row, fun n hn => (h.lev n hn).keep (hk _ (.inr (.inr ⟨n, hn, .inl rfl⟩))) (hk _ (.inr (.inr ⟨n, hn, .inr (.inl rfl)⟩))) (hk _ (.inr (.inr ⟨n, hn, .inr (.inr rfl)⟩))), h.sep, h.ok, h.hB⟩
theorem KAt.own {w : World} {s g : Nat} {C : Cfg} {B : Nat} {L : Nat → Lev} {ls : Nat → List Int} (h : KAt w s g C B L ls) : Own (kF s g B L) (fun w => KAt w s g C B L ls) w :=
  ⟨h, fun w w' h hk => h.keep hk, fun k hk => by
    rcases hk with rfl | rfl | ⟨n, hn, rfl | rfl | rfl⟩
    · exact h.lts
    · exact h.ltg
    · exact (h.lev n hn).lts
    · exact (h.lev n hn).ltb
    · exact (h.lev n hn).ltc⟩
section
variable {N : Nat} {w w' : World} {F1 F2 F3 F4 : Nat → Prop} {P1 P2 P3 P4 : World → Prop} {C : Cfg} {B s r : Nat} {g t : Nat} {L : Nat → Lev} {M : Nat → RLev} {l l' : Nat → List Int}
end
end Go.Proofs.YtfhdjekpdifajaaGreat
namespace Go.Proofs.YtfhdjekpdifajaaGreat
set_option linter.unusedVariables false
open Go.RowKit
/-- A stack of the program and one of the references that have the same cells. -/
def S2 (N : Nat) (w : World) (C : Cfg) (B : Nat) (v1 v2 : Value) : Prop :=
  ∃ s g L r t M l, v1 = .pointer (some ⟨s, 0, none⟩) ∧ v2 = .pointer (some ⟨r, 0, none⟩) ∧ Own4 N w (kF s g B L) (fun _ => False) (rkF r t C B M) (fun _ => False) (fun w => KAt w s g C B L l) (fun _ => True) (fun w => RKAt w r t C B M l) (fun _ => True)
theorem S2.mk {N : Nat} {w : World} {C : Cfg} {B s g r t : Nat} {L : Nat → Lev} {M : Nat → RLev} {l : Nat → List Int} (h : Own4 N w (kF s g B L) (fun _ => False) (rkF r t C B M) (fun _ => False) (fun w => KAt w s g C B L l) (fun _ => True) (fun w => RKAt w r t C B M l) (fun _ => True)) : S2 N w C B (.pointer (some ⟨s, 0, none⟩)) (.pointer (some ⟨r, 0, none⟩)) := ⟨s, g, L, r, t, M, l, rfl, rfl, h⟩
end Go.Proofs.YtfhdjekpdifajaaGreat
namespace Go.Proofs.YtfhdjekpdifajaaGreat
set_option linter.unusedVariables false
open Go.RowKit
/-- A row of one's own. -/
def ZAt (w : World) (z K : Nat) (xs : List Int) : Prop := xs.length = K ∧ (∀ x ∈ xs, I64 x) ∧ ∃ cur, w.heap[z]? = some (.cells cur 2 (0, 0)) ∧ ∀ j, j < K → cur[j]? = some (.int .i64 (xs.getD j 0))
theorem ZAt.set {w : World} {z K i : Nat} {xs : List Int} {d : Int} (h : ZAt w z K xs) (hi : i < K) (hd : I64 d) : ZAt (w.setCell ⟨z, i, none⟩ (.int .i64 d)) z K (xs.set i d) := by
  obtain ⟨rfl, h2, cur, h3, h4⟩ := h
  refine ⟨List.length_set, fun y hy => ?_, _, setCell_same h3 i _, fun k hk => ?_⟩
  · rcases List.mem_or_eq_of_mem_set hy with h | rfl
    · exact h2 y h
    · exact hd
  · by_cases e : k = i
    · subst e
      have hsz : k < cur.size := by
        have := h4 k hk
        rw [Array.getElem?_eq_some_iff] at this
        exact this.1
      rw [Array.getElem?_setIfInBounds_self_of_lt hsz, List.getD_eq_getElem?_getD, List.getElem?_set_self hk]
      rfl
    · rw [Array.getElem?_setIfInBounds_ne (fun h => e h.symm), h4 k hk, List.getD_eq_getElem?_getD, List.getD_eq_getElem?_getD, List.getElem?_set_ne (fun h => e h.symm)]
theorem ZAt.ints {w : World} {z K zc : Nat} {xs : List Int} (h : ZAt w z K xs) : IntsAt w (.slice (some ⟨z, 0, none⟩) K zc) xs := by
  obtain ⟨rfl, h2, cur, h3, h4⟩ := h
  exact .inr ⟨z, 0, zc, rfl, lt_of h3, fun k hk => by rw [cell_of h3, Nat.zero_add]; exact h4 k hk⟩
theorem ZAt.lt {w : World} {z K : Nat} {xs : List Int} (h : ZAt w z K xs) : z < w.heap.size := by obtain ⟨_, _, cur, h3, _⟩ := h; exact lt_of h3
theorem ZAt.cell {w : World} {z K i : Nat} {xs : List Int} (h : ZAt w z K xs) (hi : i < K) : w.cell? ⟨z, i, none⟩ = some (.int .i64 (xs.getD i 0)) ∧ w.frozen? ⟨z, i, none⟩ = false := by
  obtain ⟨_, _, cur, h3, h4⟩ := h; exact ⟨(cell_of h3 i).trans (h4 i hi), frozen_of h3 i⟩
end Go.Proofs.YtfhdjekpdifajaaGreat
namespace Go.Proofs.YtfhdjekpdifajaaGreat
set_option linter.unusedVariables false
open Go.RowKit
def u64s (l : List Int) : List Value := l.map fun x => .int .u64 x
theorem u64s_len (l : List Int) : (u64s l).length = l.length := by unfold u64s; rw [List.length_map]
theorem u64s_append (a b : List Int) : u64s (a ++ b) = u64s a ++ u64s b := by unfold u64s; rw [List.map_append]
theorem info_u64 : ∃ i z, Tryz.prog.info? 22 = some i ∧ i.zero = some z ∧ i.size = 1 ∧ i.bytes = 8 ∧ z.cells.size = 1 := by
  have h : (Tryz.prog.info? 22).map (fun i => (i.zero, i.size, i.bytes)) = some (some (.int .u64 0), 1, 8) := by kernel_rfl
  match hi : Tryz.prog.info? 22, h with
  | some i, h =>
    simp only [Option.map_some, Option.some.injEq, Prod.mk.injEq] at h
    exact ⟨i, _, rfl, h.1, h.2.1, h.2.2, rfl⟩
/-- A slice of uint64s. -/
def UAt (w : World) (v : Value) (xs : List Int) : Prop :=
  (v = .slice none 0 0 ∧ xs = []) ∨ ∃ g off cap, v = .slice (some ⟨g, off, none⟩) xs.length cap ∧ g < w.heap.size ∧ ∀ k, k < xs.length → w.cell? ⟨g, off + k, none⟩ = some (.int .u64 (xs.getD k 0))
theorem UAt.ext {w w' : World} {v : Value} {xs : List Int} (h : UAt w v xs) (he : Ext w w') : UAt w' v xs := by
  rcases h with h | ⟨g, off, cap, h1, h2, h3⟩
  · exact .inl h
  · exact .inr ⟨g, off, cap, h1, Nat.lt_of_lt_of_le h2 he.size, fun k hk => ((bcell he).1 _ _ h2).trans (h3 k hk)⟩
theorem UAt.of_row {w : World} {base : Nat} {e : TypeId} {v : Value} {n : Nat} {xs : List Int} (h : w.ownsRow base e 1 v n (u64s xs)) : UAt w v xs := by
  have hn : n = xs.length := by have := h.1; rw [u64s_len] at this; omega
  subst hn
  by_cases h0 : 0 < xs.length
  · obtain ⟨g, cap, rfl, _, hg, hc⟩ := own_row_cells h h0
    refine .inr ⟨g, 0, cap, rfl, hg, fun k hk => ?_⟩
    rw [show (0 + k) = k by omega, hc k (by omega)]
    unfold u64s
    rw [List.getElem?_map, List.getElem?_eq_getElem hk]
    simp [List.getD, hk]
  · have hx : xs = [] := List.length_eq_zero_iff.1 (by omega)
    subst hx
    rcases h.2 with ⟨rfl, _⟩ | ⟨g, cap, cur, rfl, _, hh, _⟩
    · exact .inl ⟨rfl, rfl⟩
    · exact .inr ⟨g, 0, cap, rfl, lt_of hh, fun k hk => by simp at hk⟩
theorem UAt.sl {w : World} {v : Value} {xs : List Int} (h : UAt w v xs) : ∃ p c, v = .slice p xs.length c := by
  rcases h with ⟨rfl, rfl⟩ | ⟨g, off, cap, rfl, _⟩
  · exact ⟨none, 0, rfl⟩
  · exact ⟨_, _, rfl⟩
theorem UAt.one {w : World} {p : Option Addr} {n c : Nat} {xs : List Int} (h : UAt w (.slice p n c) xs) {k : Nat} (hk : k < n) : ∃ g off, p = some ⟨g, off, none⟩ ∧ g < w.heap.size ∧ w.cell? ⟨g, off + k, none⟩ = some (.int .u64 (xs.getD k 0)) := by
  rcases h with ⟨h1, _⟩ | ⟨g, off, cap, h1, h2, h3⟩
  · cases h1; omega
  · cases h1
    exact ⟨g, off, rfl, h2, h3 k hk⟩
theorem IntsAt.oneH {w : World} {p : Option Addr} {n c : Nat} {xs : List Int} (h : IntsAt w (.slice p n c) xs) {k : Nat} (hk : k < n) : ∃ g off, p = some ⟨g, off, none⟩ ∧ g < w.heap.size ∧ w.cell? ⟨g, off + k, none⟩ = some (.int .i64 (xs.getD k 0)) := by
  rcases h with ⟨h1, _⟩ | ⟨g, off, cap, h1, h2, h3⟩
  · cases h1; omega
  · cases h1
    exact ⟨g, off, rfl, h2, h3 k hk⟩
/-- One after the other, up to the first error. -/
def eachR {α : Type} (f : α → Int × Int) (l : List α) : List Int × Int := match l.find? (fun x => decide ((f x).2 ≠ 0)) with | none => (l.map fun x => (f x).1, 0) | some x => ([], (f x).2)
theorem eachR_ok {α : Type} {f : α → Int × Int} {l : List α} (h : ∀ x ∈ l, (f x).2 = 0) : eachR f l = (l.map fun x => (f x).1, 0) := by
  unfold eachR
  rw [List.find?_eq_none.2 (fun x hx => by simp [h x hx])]
theorem eachR_err {α : Type} {f : α → Int × Int} {pre suf : List α} {x : α} (h : ∀ y ∈ pre, (f y).2 = 0) (hx : (f x).2 ≠ 0) : eachR f (pre ++ x :: suf) = ([], (f x).2) := by
  unfold eachR
  have h1 : (pre ++ x :: suf).find? (fun x => decide ((f x).2 ≠ 0)) = some x := by
    rw [List.find?_append, List.find?_eq_none.2 (fun y hy => by simp [h y hy])]
    simp [hx]
  rw [h1]
theorem list_split {α : Type} {l : List α} {k : Nat} (h : k < l.length) : l = l.take k ++ l[k] :: l.drop (k + 1) := by
  rw [← List.drop_eq_getElem_cons h, List.take_append_drop]
theorem take_map_snoc {α : Type} {f : α → Int × Int} {l : List α} {k : Nat} (h : k < l.length) : (l.take (k + 1)).map (fun x => (f x).1) = (l.take k).map (fun x => (f x).1) ++ [(f l[k]).1] := by
  rw [List.take_add_one, List.getElem?_eq_getElem h, List.map_append]; rfl
def EachPost (w : World) (r : List Int × Int) (e : Ending) (w' : World) : Prop :=
  ∃ v, e = .returned (.tuple #[v, .int .i64 r.2]) ∧ w'.ownsRow w.heap.size 22 1 v r.1.length (u64s r.1) ∧ Ext w w'
set_option maxRecDepth 20000 in
set_option maxHeartbeats 4000000 in
theorem Ask1_c (s b : Nat) (f : Int → Int × Int) (k : Int) (w : World) (hb : w.cell? ⟨b, 0, none⟩ = some (.pointer (some ⟨s, 0, none⟩))) (hbl : b < w.heap.size)
    (hq : Calls Tryz.prog 33 #[.pointer (some ⟨s, 0, none⟩), .int .i64 k] w fun e w' => e = .returned (.tuple #[.int .u64 (f k).1, .int .i64 (f k).2]) ∧ Ext w w') :
    Calls Tryz.prog 130 #[.int .i64 k, .pointer (some ⟨b, 0, none⟩)] w fun e w' => e = .returned (.tuple #[.int .u64 (f k).1, .int .i64 (f k).2]) ∧ Ext w w' := by
  have HQ := Lib.hid hq
  clear hq
  go_enter Tryz.func130, Tryz.ntmps130
  go_wp2_with fail
  refine Calls.mono HQ.out ?_
  rintro e w1 ⟨rfl, hx1⟩
  go_wp2
  go_ret2
  exact ⟨rfl, hx1⟩
set_option maxRecDepth 20000 in
set_option maxHeartbeats 8000000 in
theorem Each1_c (b : Nat) (f : Int → Int × Int) (ks : List Int) (p : Option Addr) (cap : Nat) (w : World) (hks : IntsAt w (.slice p ks.length cap) ks) (hl : ks.length ≤ 100000)
    (hask : ∀ k ∈ ks, ∀ W', Ext w W' → Calls Tryz.prog 130 #[.int .i64 k, .pointer (some ⟨b, 0, none⟩)] W' fun e w' => e = .returned (.tuple #[.int .u64 (f k).1, .int .i64 (f k).2]) ∧ Ext W' w') :
    Calls Tryz.prog 129 #[.slice p ks.length cap, .func (.func 130) #[] #[.pointer (some ⟨b, 0, none⟩)]] w (EachPost w (eachR f ks)) := by
  have HK := Lib.hid hks
  have HA := Lib.hid hask
  clear hks hask
  generalize hn : ks.length = n at *
  have HN := Lib.hid hn
  clear hn
  go_enter Tryz.func129, Tryz.ntmps129
  go_wp2_with fail
  go_loopw [6, 13] (fun u6 u13 wr => ∃ k : Nat, k ≤ n ∧ u13 = .int .i64 k ∧ (∀ x ∈ ks.take k, (f x).2 = 0) ∧ wr.ownsRow w.heap.size 22 1 u6 k (u64s ((ks.take k).map fun x => (f x).1)) ∧ Ext w wr) (fun _ u13 _ => n - (intOf u13).toNat)
  case atStart => exact ⟨0, Nat.zero_le _, rfl, by simp, ⟨rfl, .inl ⟨rfl, rfl⟩⟩, Ext.refl _⟩
  case round =>
    obtain ⟨k, hk, rfl, hall, hown, hE⟩ := hrel
    obtain ⟨po, co, rfl⟩ := own_sl hown
    have HO := Lib.hid hown
    have HALL := Lib.hid hall
    clear hown hall
    by_cases hlt : k < n
    · have hkl : k < ks.length := by rw [HN.out]; exact hlt
      obtain ⟨g, off, rfl, hg, hc⟩ := (HK.out.ext hE).oneH hlt
      have hx : ks.getD k 0 = ks[k] := by simp [List.getD, hkl]
      rw [hx] at hc
      have hcall := HA.out ks[k] (List.getElem_mem hkl) wr hE
      have hsp := list_split hkl
      have hsn := take_map_snoc (f := f) hkl
      have HSP := Lib.hid hsp
      have HSN := Lib.hid hsn
      have hts : ks.take (k + 1) = ks.take k ++ [ks[k]] := by rw [List.take_add_one, List.getElem?_eq_getElem hkl]; rfl
      have HTS := Lib.hid hts
      have HCALL := Lib.hid hcall
      clear hcall hsp hsn hx hts
      generalize ks[k] = kk at *
      go_wp2_with fail
      refine Calls.mono HCALL.out ?_
      rintro e w2 ⟨rfl, hx2⟩
      have hE2 := hE.trans' hx2
      have HO2 := Lib.hid (own_ext HO.out hx2)
      clear hx2 hc hg
      by_cases he : (f kk).2 = 0
      · rw [he]
        have hs2 := hE2.size
        generalize hfv : (f kk).1 = y at *
        go_wp2_with (at_builtin; refine wpList_appK w2 1 8 1 (by decide) (by decide) [.int .u64 y] rfl (by simp [Value.oneCell']) _ k _ w.heap.size 22 _ HO2.out 110 rfl _ _ rfl info_u64 Tryz.underlying110 _ rfl (by rfl) (by rfl) ?a1 ?a2 ?_)
        case a1 => omega
        case a2 => exact hs2
        intro v' w3 g1 g2 _
        have hE3 : Ext w w3 := ext_grown hE2 g2 (fun j hj => own_geB HO2.out hj)
        obtain ⟨po3, co3, rfl⟩ := own_sl g1
        have G1 := Lib.hid g1
        clear g1 g2
        go_wp2
        go_roundw
        case rel => exact ⟨k + 1, by omega, by go_num, fun x hx => by
          rw [HTS.out] at hx
          rcases List.mem_append.1 hx with hx | hx
          · exact HALL.out x hx
          · rw [List.mem_singleton.1 hx]; exact he, by rw [HSN.out, u64s_append, List.map_take]; exact G1.out, hE3⟩
        case measure => simp [intOf]; omega
      · have hne : ((f kk).2 == 0) = false := beq_eq_false_iff_ne.2 he
        have hres : eachR f ks = ([], (f kk).2) := by
          rw [HSP.out]; exact eachR_err HALL.out he
        have HRES := Lib.hid hres
        clear hres
        generalize (f kk).2 = er at *
        go_wp2
        go_ret2
        refine ⟨.slice none 0 0, ?_, ?_, hE2⟩
        · rw [HRES.out]; rfl
        · rw [HRES.out]; exact ⟨rfl, .inl ⟨rfl, rfl⟩⟩
    · obtain rfl : k = n := by omega
      have htk : ks.take k = ks := List.take_of_length_le (by rw [HN.out]; exact Nat.le_refl _)
      have hres : eachR f ks = (ks.map fun x => (f x).1, 0) := eachR_ok (fun x hx => HALL.out x (by rw [htk]; exact hx))
      have ho := HO.out
      rw [htk] at ho
      have HO3 := Lib.hid ho
      have HRES := Lib.hid hres
      clear htk hres ho
      go_wp2
      go_ret2
      refine ⟨.slice po k co, ?_, ?_, hE⟩
      · rw [HRES.out]; rfl
      · rw [HRES.out]
        show World.ownsRow _ _ _ _ _ (ks.map _).length _
        rw [List.length_map, HN.out]
        exact HO3.out
end Go.Proofs.YtfhdjekpdifajaaGreat
namespace Go.Proofs.YtfhdjekpdifajaaGreat
set_option linter.unusedVariables false
open Go.RowKit
section
variable {P : Program}
theorem wpList_appV (W : World) {ops : Array Oper} {rest : List Oper} {o : Oper} {a : Act} {Q : Exit → Act → World → Prop} (news xs : List Value) (v : Value) (base : Nat) (e : TypeId) (hown : W.ownsRow base e 1 v xs.length xs) (t : TypeId)
    (hgd : o.guard = none) (s y : Operand) (ho : o.op = .call { callee := .builtin .append, args := #[s, y], argTypes := #[t, t] })
    (hinfo : ∃ i z, P.info? e = some i ∧ i.zero = some z ∧ i.size = 1 ∧ i.bytes = 8 ∧ z.cells.size = 1) (ht : P.underlying t = some (.slice e))
    (hs : a.eval s = v) (p : Option Addr) (m c : Nat) (hx : a.eval y = .slice p m c) (hm : m = news.length)
    (hc : news = [] ∨ ∃ g off, p = some ⟨g, off, none⟩ ∧ ∀ k, k < m → W.cell? ⟨g, off + k, none⟩ = news[k]?) (h1 : ∀ u ∈ news, u.oneCell' = true)
    (hl : xs.length + m ≤ 1000000000000) (hbase : base ≤ W.heap.size)
    (h : ∀ v' w', w'.ownsRow base e 1 v' (xs ++ news).length (xs ++ news) → (∀ W0 : World, Ext W0 W → W0.heap.size ≤ base → Ext W0 w') → wpList P ops Q rest (a.put o.dst v') w') :
    wpList P ops Q (o :: rest) a W := by
  obtain ⟨i0, z, hi, hz0, hz1, hz2, hz3⟩ := hinfo
  by_cases hl0 : news = []
  · subst hl0
    subst hm
    refine wpList_append_zero hgd s y t ho base e i0 1 ht hi v xs.length xs hs hown p c hx ?_
    exact h v W (by rw [List.append_nil]; exact hown) (fun W0 h _ => h)
  · obtain ⟨g, off, rfl, hcc⟩ := hc.resolve_left hl0
    refine wpList_append_sep _ hgd s y t ho base e i0 z 1 8 ht hi hz0 hz1 hz2 hz3 (by decide) v xs.length xs hs hown ⟨g, off, none⟩ m c news hx (by omega) ?_ h1 (by unfold maxLen; omega) (by omega) hbase ?_
    · intro j u hu
      have hj := (List.getElem?_eq_some_iff.1 hu).1
      rw [show (⟨g, off, none⟩ : Addr).add j = ⟨g, off + j, none⟩ by simp [Addr.add], hcc j (by omega)]
      exact hu
    · intro v' w' h1 h2 h3
      refine h v' w' (by rw [List.length_append, ← hm]; exact h1) (fun W0 hE hb => ext_grown0 hE h2 fun k hk => Nat.le_trans hb (own_blk hown hk))
end
/-- A slice of uint64s that came in. -/
def USl (w : World) (p : Option Addr) (n cap : Nat) (l : List Int) : Prop :=
  n = l.length ∧ n ≤ cap ∧ ((n = 0 ∧ (p = none → cap = 0)) ∨ ∃ g off, p = some ⟨g, off, none⟩ ∧ g < w.heap.size ∧ ∀ k, k < n → w.cell? ⟨g, off + k, none⟩ = some (.int .u64 (l.getD k 0)))
def allU (l : List Int) : Prop := ∀ x ∈ l, U64 x
end Go.Proofs.YtfhdjekpdifajaaGreat
namespace Go.Proofs.YtfhdjekpdifajaaGreat
set_option linter.unusedVariables false
open Go.RowKit
set_option maxRecDepth 20000 in
set_option maxHeartbeats 4000000 in
theorem Quantiles_c (s : Nat) (f : Int → Int × Int) (ks : List Int) (p : Option Addr) (cap : Nat) (w : World) (hks : IntsAt w (.slice p ks.length cap) ks) (hl : ks.length ≤ 100000)
    (hq : ∀ k ∈ ks, ∀ W', Ext w W' → Calls Tryz.prog 33 #[.pointer (some ⟨s, 0, none⟩), .int .i64 k] W' fun e w' => e = .returned (.tuple #[.int .u64 (f k).1, .int .i64 (f k).2]) ∧ Ext W' w') :
    Calls Tryz.prog 71 #[.pointer (some ⟨s, 0, none⟩), .slice p ks.length cap] w (EachPost w (eachR f ks)) := by
  have hx0 : Ext w (w.alloc (.cells #[.pointer (some ⟨s, 0, none⟩)] 28)) := Ext.alloc' _ _
  have hbx := heap_at w (.cells #[.pointer (some ⟨s, 0, none⟩)] 28) rfl
  have hE := Each1_c w.heap.size f ks p cap _ (hks.ext hx0) hl (fun k hk W' hE' => Ask1_c s w.heap.size f k W' ((cell_of (hE'.keep hbx) 0).trans rfl) (lt_of (hE'.keep hbx)) (hq k hk W' (hx0.trans' hE')))
  have HE := Lib.hid hE
  clear hE hq hks hbx
  generalize hn : ks.length = n at *
  go_enter Tryz.func71, Tryz.ntmps71
  go_wp2_with fail
  refine Calls.mono HE.out ?_
  rintro e w1 ⟨v, rfl, ho, hx1⟩
  have HX1 := Lib.hid (hx0.trans' hx1)
  have HO := Lib.hid (own_bmono ho hx0.size)
  clear ho hx1 hx0
  go_wp2
  go_ret2
  exact ⟨v, rfl, HO.out, HX1.out⟩
end Go.Proofs.YtfhdjekpdifajaaGreat
namespace Go.Proofs.YtfhdjekpdifajaaGreat
set_option linter.unusedVariables false
open Go.RowKit
def spV (l : List (Int × Int)) : List Value := l.flatMap fun p => [.int .u64 p.1, .int .u64 p.2]
theorem spV_append (a b : List (Int × Int)) : spV (a ++ b) = spV a ++ spV b := by unfold spV; rw [List.flatMap_append]
theorem spV_at {l : List (Int × Int)} : ∀ {k : Nat} (h : k < l.length), (spV l)[k * 2]? = some (.int .u64 l[k].1) ∧ (spV l)[k * 2 + 1]? = some (.int .u64 l[k].2) := by
  induction l with
  | nil => intro k h; simp at h
  | cons u l ih =>
    intro k h
    have e : spV (u :: l) = .int .u64 u.1 :: .int .u64 u.2 :: spV l := rfl
    rw [e]
    cases k with
    | zero => exact ⟨rfl, rfl⟩
    | succ k =>
      have := ih (k := k) (by simpa using h)
      rw [show (k + 1) * 2 = k * 2 + 1 + 1 by omega]
      simp only [List.getElem?_cons_succ, List.getElem_cons_succ]
      exact this
theorem info_2u : ∃ i z, Tryz.prog.info? 209 = some i ∧ i.zero = some z ∧ i.size = 2 ∧ i.bytes = 16 ∧ z.cells.size = 2 := by
  have h : (Tryz.prog.info? 209).map (fun i => (i.zero, i.size, i.bytes)) = some (some (.agg #[.int .u64 0, .int .u64 0]), 2, 16) := by kernel_rfl
  match hi : Tryz.prog.info? 209, h with
  | some i, h =>
    simp only [Option.map_some, Option.some.injEq, Prod.mk.injEq] at h
    exact ⟨i, _, rfl, h.1, h.2.1, h.2.2, rfl⟩
theorem info_i64e : ∃ i z, Tryz.prog.info? 2 = some i ∧ i.zero = some z ∧ i.size = 1 ∧ i.bytes = 8 ∧ z.cells.size = 1 := by
  have h : (Tryz.prog.info? 2).map (fun i => (i.zero, i.size, i.bytes)) = some (some (.int .i64 0), 1, 8) := by kernel_rfl
  match hi : Tryz.prog.info? 2, h with
  | some i, h =>
    simp only [Option.map_some, Option.some.injEq, Prod.mk.injEq] at h
    exact ⟨i, _, rfl, h.1, h.2.1, h.2.2, rfl⟩
def EachIPost (w : World) (r : List Int × Int) (e : Ending) (w' : World) : Prop :=
  ∃ v, e = .returned (.tuple #[v, .int .i64 r.2]) ∧ w'.ownsRow w.heap.size 2 1 v r.1.length (ints r.1) ∧ Ext w w'
set_option maxRecDepth 20000 in
set_option maxHeartbeats 4000000 in
theorem Ask2_c (s b : Nat) (f : Int × Int → Int × Int) (x y : Int) (w : World) (hb : w.cell? ⟨b, 0, none⟩ = some (.pointer (some ⟨s, 0, none⟩))) (hbl : b < w.heap.size)
    (hq : ∀ W', Ext w W' → Calls Tryz.prog 80 #[.pointer (some ⟨s, 0, none⟩), .int .u64 x, .int .u64 y] W' fun e w' => e = .returned (.tuple #[.int .i64 (f (x, y)).1, .int .i64 (f (x, y)).2]) ∧ Ext W' w') :
    Calls Tryz.prog 132 #[.agg #[.int .u64 x, .int .u64 y], .pointer (some ⟨b, 0, none⟩)] w fun e w' => e = .returned (.tuple #[.int .i64 (f (x, y)).1, .int .i64 (f (x, y)).2]) ∧ Ext w w' := by
  have hx0 : Ext w (w.alloc (.cells #[.int .u64 x, .int .u64 y] 209)) := Ext.alloc' _ _
  have HQ := Lib.hid (hq _ hx0)
  clear hq
  go_enter Tryz.func132, Tryz.ntmps132
  go_wp2_with fail
  refine Calls.mono HQ.out ?_
  rintro e w1 ⟨rfl, hx1⟩
  have hE := hx0.trans' hx1
  go_wp2
  go_ret2
  exact ⟨rfl, hE⟩
set_option maxRecDepth 20000 in
set_option maxHeartbeats 8000000 in
theorem EachS_c (b : Nat) (f : Int × Int → Int × Int) (ks : List (Int × Int)) (base : Nat) (p : Option Addr) (cap : Nat) (w : World) (hks : w.ownsRow base 209 2 (.slice p ks.length cap) ks.length (spV ks)) (hl : ks.length ≤ 100000)
    (hask : ∀ k ∈ ks, ∀ W', Ext w W' → Calls Tryz.prog 132 #[.agg #[.int .u64 k.1, .int .u64 k.2], .pointer (some ⟨b, 0, none⟩)] W' fun e w' => e = .returned (.tuple #[.int .i64 (f k).1, .int .i64 (f k).2]) ∧ Ext W' w') :
    Calls Tryz.prog 131 #[.slice p ks.length cap, .func (.func 132) #[] #[.pointer (some ⟨b, 0, none⟩)]] w (EachIPost w (eachR f ks)) := by
  have HK := Lib.hid hks
  have HA := Lib.hid hask
  clear hks hask
  generalize hn : ks.length = n at *
  have HN := Lib.hid hn
  clear hn
  go_enter Tryz.func131, Tryz.ntmps131
  go_wp2_with fail
  go_loopw [6, 13] (fun u6 u13 wr => ∃ k : Nat, k ≤ n ∧ u13 = .int .i64 k ∧ (∀ x ∈ ks.take k, (f x).2 = 0) ∧ wr.ownsRow w.heap.size 2 1 u6 k (ints ((ks.take k).map fun x => (f x).1)) ∧ Ext w wr) (fun _ u13 _ => n - (intOf u13).toNat)
  case atStart => exact ⟨0, Nat.zero_le _, rfl, by simp, ⟨rfl, .inl ⟨rfl, rfl⟩⟩, Ext.refl _⟩
  case round =>
    obtain ⟨k, hk, rfl, hall, hown, hE⟩ := hrel
    obtain ⟨po, co, rfl⟩ := own_sl hown
    have HO := Lib.hid hown
    have HALL := Lib.hid hall
    clear hown hall
    by_cases hlt : k < n
    · have hkl : k < ks.length := by rw [HN.out]; exact hlt
      obtain ⟨g, capk, hv, _, hg, hcell⟩ := own_row_cells (own_ext HK.out hE) (by omega)
      cases hv
      have hcs := spV_at hkl
      have c0 := (hcell (k * 2) (by omega)).trans hcs.1
      have c1 := (hcell (k * 2 + 1) (by omega)).trans hcs.2
      have hEa : Ext w (wr.alloc (.cells #[.int .u64 ks[k].1, .int .u64 ks[k].2] 209)) := hE.allocR _
      have hcall := HA.out ks[k] (List.getElem_mem hkl) _ hEa
      have hsp := list_split hkl
      have hsn := take_map_snoc (f := f) hkl
      have HSP := Lib.hid hsp
      have HSN := Lib.hid hsn
      have hts : ks.take (k + 1) = ks.take k ++ [ks[k]] := by rw [List.take_add_one, List.getElem?_eq_getElem hkl]; rfl
      have HTS := Lib.hid hts
      have HCALL := Lib.hid hcall
      have HOA := Lib.hid (HO.out.alloc (.cells #[.int .u64 ks[k].1, .int .u64 ks[k].2] 209))
      clear hcall hsp hsn hts hcs hcell HO
      generalize ks[k] = kk at *
      go_wp2_with fail
      refine Calls.mono HCALL.out ?_
      rintro e w2 ⟨rfl, hx2⟩
      have hE2 := hEa.trans' hx2
      have HO2 := Lib.hid (own_ext HOA.out hx2)
      clear hx2 c0 c1 hg
      by_cases he : (f kk).2 = 0
      · rw [he]
        have hs2 := hE2.size
        generalize hfv : (f kk).1 = y at *
        go_wp2_with (at_builtin; refine wpList_appK w2 1 8 1 (by decide) (by decide) [.int .i64 y] rfl (by simp [Value.oneCell']) _ k _ w.heap.size 2 _ HO2.out 43 rfl _ _ rfl info_i64e Tryz.underlying43 _ rfl (by rfl) (by rfl) ?a1 ?a2 ?_)
        case a1 => omega
        case a2 => exact hs2
        intro v' w3 g1 g2 _
        have hE3 : Ext w w3 := ext_grown hE2 g2 (fun j hj => own_geB HO2.out hj)
        obtain ⟨po3, co3, rfl⟩ := own_sl g1
        have G1 := Lib.hid g1
        clear g1 g2
        go_wp2
        go_roundw
        case rel => exact ⟨k + 1, by omega, by go_num, fun x hx => by
          rw [HTS.out] at hx
          rcases List.mem_append.1 hx with hx | hx
          · exact HALL.out x hx
          · rw [List.mem_singleton.1 hx]; exact he, by rw [HSN.out, ints_app, List.map_take]; exact G1.out, hE3⟩
        case measure => simp [intOf]; omega
      · have hne : ((f kk).2 == 0) = false := beq_eq_false_iff_ne.2 he
        have hres : eachR f ks = ([], (f kk).2) := by
          rw [HSP.out]; exact eachR_err HALL.out he
        have HRES := Lib.hid hres
        clear hres
        generalize (f kk).2 = er at *
        go_wp2
        go_ret2
        refine ⟨.slice none 0 0, ?_, ?_, hE2⟩
        · rw [HRES.out]; rfl
        · rw [HRES.out]; exact ⟨rfl, .inl ⟨rfl, rfl⟩⟩
    · obtain rfl : k = n := by omega
      have htk : ks.take k = ks := List.take_of_length_le (by rw [HN.out]; exact Nat.le_refl _)
      have hres : eachR f ks = (ks.map fun x => (f x).1, 0) := eachR_ok (fun x hx => HALL.out x (by rw [htk]; exact hx))
      have ho := HO.out
      rw [htk] at ho
      have HO3 := Lib.hid ho
      have HRES := Lib.hid hres
      clear htk hres ho
      go_wp2
      go_ret2
      refine ⟨.slice po k co, ?_, ?_, hE⟩
      · rw [HRES.out]; rfl
      · rw [HRES.out]
        show World.ownsRow _ _ _ _ _ (ks.map _).length _
        rw [List.length_map, HN.out]
        exact HO3.out
/-- Do the cuts rise? -/
def Rise (cuts : List Int) (k : Nat) : Prop := ∀ j, j + 1 < k → cuts.getD j 0 < cuts.getD (j + 1) 0
/-- Are the cuts keys, but for 0? -/
def Inner (K : Int) (cuts : List Int) : Prop := ∀ c ∈ cuts, 1 ≤ c ∧ c < K
def spansL (K : Int) : Int → List Int → List (Int × Int)
  | a, [] => [(a, K - 1)]
  | a, c :: r => (a, c - 1) :: spansL K c r
open Classical in
noncomputable def histR (f : Int × Int → Int × Int) (K : Int) (cuts : List Int) : List Int × Int :=
  if ¬ Rise cuts cuts.length then ([], 1) else if ¬ Inner K cuts then ([], 2) else eachR f (spansL K 0 cuts)
end Go.Proofs.YtfhdjekpdifajaaGreat
