/- Part. No condition. -/
import Derived.Test.YtfhdjekpdifajaaGreatL7
import Derived.Test.YtfhdjekpdifajaaGreatL12
import Derived.Test.YtfhdjekpdifajaaGreatL6
import Derived.Test.YtfhdjekpdifajaaGreatL5
import Derived.Test.YtfhdjekpdifajaaGreatL11
import Derived.Test.YtfhdjekpdifajaaGreatL4
import Derived.Test.YtfhdjekpdifajaaGreatL3
import Derived.ProofKit
import Derived.OpenShut
import Derived.ChangeOld
import Derived.Below
import Derived.SizedLaws
import Derived.Deep.Slices
import Derived.Deep.Fields

/- gaugerref16: Parts, Range, walked. -/
namespace Go.Proofs.YtfhdjekpdifajaaGreat
set_option linter.unusedVariables false
open Go.RowKit
def RPartsPost (w : World) (B : Nat) (pt : Nat → Int → Int) (lo hi : Int) (e : Ending) (w' : World) : Prop :=
  (hi < lo ∧ (∃ v, e = .returned (.tuple #[v, .int .i64 1]) ∧ w'.ownsRow w.heap.size 2 1 v 0 []) ∧ Ext w w') ∨
  ((lo ≤ hi ∧ 2 ^ B ≤ hi) ∧ (∃ v, e = .returned (.tuple #[v, .int .i64 2]) ∧ w'.ownsRow w.heap.size 2 1 v 0 []) ∧ Ext w w') ∨
  ((lo ≤ hi ∧ hi < 2 ^ B) ∧ ∃ v, e = .returned (.tuple #[v, .int .i64 0]) ∧ w'.ownsRow w.heap.size 2 1 v (cvV pt B lo hi).length (ints (cvV pt B lo hi)) ∧ Ext w w')
theorem cv_snoc {pt : Nat → Int → Int} {B : Nat} {lo hi : Int} {k : Nat} {ps : List (Nat × Int)} (hps : covL B 0 lo hi = ps) (hk : k < ps.length) {pre : List Int} (hp : pre = (cvV pt B lo hi).take k) :
    pre ++ [pt (ps.getD k (0, 0)).1 (ps.getD k (0, 0)).2] = (cvV pt B lo hi).take (k + 1) := by
  unfold cvV at hp ⊢
  rw [hps] at hp ⊢
  have hk2 : k < (ps.map fun p => pt p.1 p.2).length := by rw [List.length_map]; exact hk
  rw [List.take_succ_eq_append_getElem hk2, hp]
  congr 2
  rw [List.getElem_map]
  have e : ps.getD k (0, 0) = ps[k] := by simp [List.getD, List.getElem?_eq_getElem hk]
  rw [e]
theorem pcs_cells {w : World} {base : Nat} {p : Option Addr} {n c : Nat} {ps : List (Nat × Int)} (h : w.ownsRow base 39 2 (.slice p n c) n (pcV ps)) {k : Nat} (hk : k < ps.length) :
    ∃ g, p = some ⟨g, 0, none⟩ ∧ base ≤ g ∧ g < w.heap.size ∧ w.cell? ⟨g, k * 2, none⟩ = some (.int .i64 ((ps.getD k (0, 0)).1 : Int)) ∧ w.cell? ⟨g, k * 2 + 1, none⟩ = some (.int .u64 (ps.getD k (0, 0)).2) := by
  obtain ⟨h1, h2⟩ := h
  rw [pcV_len] at h1
  rcases h2 with ⟨_, h3⟩ | ⟨g, cap, cur, hv, hb, hh, hc, _, hs, ht⟩
  · omega
  · obtain ⟨rfl, _⟩ := Value.slice.inj hv
    obtain ⟨a1, a2⟩ := pcV_at hk
    rw [← ht] at a1 a2
    rw [List.getElem?_take_of_lt (by omega)] at a1 a2
    simp only [Array.getElem?_toList] at a1 a2
    refine ⟨g, rfl, hb, lt_of hh, ?_, ?_⟩
    · rw [cell_of hh]; exact a1
    · rw [cell_of hh]; exact a2
/-- The pieces' own block is still what it was. -/
def KeptP (w1 wr : World) (pp : Option Addr) (u : Value) : Prop := ∀ g, pp = some ⟨g, 0, none⟩ → wr.heap[g]? = w1.heap[g]? ∧ g < wr.heap.size ∧ u.ownBlock ≠ some g
set_option maxRecDepth 20000 in
set_option maxHeartbeats 8000000 in
theorem RParts_c (s t : Nat) (C : Cfg) (B : Nat) (L : Nat → RLev) (ls : Nat → List Int) (w : World) (h : RKAt w s t C B L ls) (pt : Nat → Int → Int) (hU : Uniq C B ls pt) (lo hi : Int) (hlo : U64 lo) (hhi : U64 hi) :
    Calls Tryz.prog 179 #[.pointer (some ⟨s, 0, none⟩), .int .u64 lo, .int .u64 hi] w (RPartsPost w B pt lo hi) := by
  have hB := h.hB
  have hb1 := h.ok.b1
  have hb2 := h.ok.b2
  obtain ⟨w0, hw0⟩ : ∃ w0, w.alloc (.cells #[] 2) = w0 := ⟨_, rfl⟩
  have ho0 : w0.ownsRow w.heap.size 2 1 (.slice (some ⟨w.heap.size, 0, none⟩) 0 0) ([] : List Int).length (ints []) := by rw [← hw0]; exact ⟨rfl, .inr ⟨w.heap.size, 0, #[], rfl, Nat.le_refl _, heap_at _ _ rfl, Nat.le_refl _, Nat.zero_le _, rfl, rfl⟩⟩
  have hE0 : Ext w w0 := by rw [← hw0]; exact Ext.alloc' _ _
  have hz0 : w0.heap.size = w.heap.size + 1 := by rw [← hw0]; exact size_alloc _ _
  have HO0 := Lib.hid ho0
  have HZ0 := Lib.hid hz0
  have H := Lib.hid h
  obtain ⟨hlo0, hlo1⟩ := hlo
  obtain ⟨hhi0, hhi1⟩ := hhi
  clear ho0 hz0 h
  by_cases h1 : hi < lo
  · go_enter Tryz.func179, Tryz.ntmps179
    go_upto_region 2 with (fail)
    try rw [hw0]
    go_wp2
    go_ret2
    exact .inl ⟨h1, ⟨_, rfl, HO0.out⟩, hE0⟩
  · have H1 := Lib.hid (show lo ≤ hi by omega)
    obtain ⟨cap, hex, hcap⟩ := (H.out.ext hE0).ex
    have c0 := (cell_of hex 0).trans (show _ = some (Value.int .i64 B) by rw [← hB]; rfl)
    have hls := lt_of hex
    have HCV := Lib.hid (RCover_c B (by omega) (by omega) lo hi ⟨hlo0, hlo1⟩ ⟨hhi0, hhi1⟩ w0)
    have HBB := Lib.hid (And.intro hb1 (And.intro hb2 hB))
    clear hex hb1 hb2 hB
    go_enter Tryz.func179, Tryz.ntmps179
    go_upto_region 2 with (fail)
    try rw [hw0]
    go_wp2_with fail
    refine Calls.mono HCV.out ?_
    rintro e w1 (⟨hc, v, rfl, hx⟩ | ⟨hc, v, rfl, ho, hx⟩)
    · have h2 : 2 ^ B ≤ hi := by have := H1.out; omega
      have H2 := Lib.hid h2
      have HX := Lib.hid hx
      clear h2 hc hx h1 c0 hls
      go_wp2
      go_ret2
      exact .inr (.inl ⟨⟨H1.out, H2.out⟩, ⟨_, rfl, own_keepB HO0.out (fun k hk => HX.out.block k (own_lt HO0.out hk))⟩, hE0.trans' HX.out⟩)
    · obtain ⟨ps, hps⟩ : ∃ ps, covL B 0 lo hi = ps := ⟨_, rfl⟩
      rw [hps] at ho
      have hbd := cov_bd B 0 lo hi hlo0 hc.1 hc.2
      have hlv := cov_lev B 0 lo hi
      have hlen := cov_len B 0 lo hi
      rw [hps] at hbd hlv hlen
      obtain ⟨pp, pc, rfl⟩ := own_sl ho
      have HO := Lib.hid ho
      have HBD := Lib.hid hbd
      have HLV := Lib.hid hlv
      have HLEN := Lib.hid hlen
      have HPS := Lib.hid hps
      have HC := Lib.hid hc
      have hx01 := hx
      have hE1 := hE0.trans' hx
      have hkp0 : KeptP w1 w1 pp (.slice (some ⟨w.heap.size, 0, none⟩) 0 0) := fun g hg => by
        subst hg
        have hb := own_blk HO.out (k := g) rfl
        exact ⟨rfl, own_lt HO.out rfl, fun e => by have h3 : w.heap.size = g := Option.some.inj e; have := HZ0.out; omega⟩
      have hor := own_keepB HO0.out (fun k hk => hx.block k (own_lt HO0.out hk))
      have HKP0 := Lib.hid hkp0
      have HOR := Lib.hid hor
      clear ho hbd hlv hlen hps hc hx hx01 hkp0 hor c0 hls
      generalize hnn : ps.length = np at *
      have HNP := Lib.hid hnn
      have hnp : np ≤ 200 := by have := HLEN.out; have := HBB.out.2.1; have := HBB.out.2.2; omega
      clear hnn
      go_wp2_with fail
      go_loopw [8, 11] (fun u8 u11 wr => ∃ (k : Nat) (pre : List Int), k ≤ np ∧ u11 = .int .i64 k ∧ pre.length = k ∧ pre = (cvV pt B lo hi).take k ∧ wr.ownsRow w.heap.size 2 1 u8 pre.length (ints pre) ∧ KeptP w1 wr pp u8 ∧ Ext w wr) (fun _ u11 _ => np - (intOf u11).toNat)
      case atStart => exact ⟨0, [], Nat.zero_le _, rfl, rfl, rfl, HOR.out, HKP0.out, hE1⟩
      case round =>
        clear hE1 HOR HKP0
        obtain ⟨k, pre, hk, rfl, hpl, hpre, hown, hkp, hE⟩ := hrel
        obtain ⟨pv, cv, rfl⟩ := own_sl hown
        have HPRE := Lib.hid hpre
        have HOWN := Lib.hid hown
        have HKP := Lib.hid hkp
        have HPL := Lib.hid hpl
        clear hpre hown hkp
        subst hpl
        by_cases hgo : pre.length < np
        · obtain ⟨g, rfl, hbg, hgl, d1', d2'⟩ := pcs_cells HO.out (k := pre.length) (by rw [HNP.out]; exact hgo)
          obtain ⟨hgk, hgs, hgn⟩ := HKP.out g rfl
          have d1 := (World.cell?_of_block (a := ⟨g, pre.length * 2, none⟩) hgk).trans d1'
          have d2 := (World.cell?_of_block (a := ⟨g, pre.length * 2 + 1, none⟩) hgk).trans d2'
          have hmem : ps.getD pre.length (0, 0) ∈ ps := by simp [List.getD, List.getElem?_eq_getElem (show pre.length < ps.length by rw [HNP.out]; exact hgo)]
          have hq1 := HBD.out _ hmem
          have hq2 := HLV.out _ hmem
          have hsn := cv_snoc HPS.out (k := pre.length) (by rw [HNP.out]; exact hgo) HPRE.out
          clear d1' d2' hmem
          generalize ps.getD pre.length (0, 0) = q at *
          obtain ⟨n, i⟩ := q
          have hn : n ≤ B := by have := hq2.2; simp only at this; omega
          have hkey : i < keys C n := by
            have h3 := hq1.2
            simp only at h3
            unfold keys
            rw [show (C.bits - (n : Int)).toNat = 0 + B - n by have := HBB.out.2.2; omega]
            exact h3
          have hi0 : 0 ≤ i := hq1.1
          have hi1 : i < 18446744073709551616 := by
            have := keys_bd C H.out.ok n (Int.natCast_nonneg n)
            omega
          have HSN := Lib.hid hsn
          have HGN := Lib.hid (And.intro hgk (And.intro hgs hgn))
          have hcall := RKPoint_c s t C B L ls n i (by unfold I64; have := HBB.out.2.1; have := HBB.out.2.2; omega) ⟨hi0, hi1⟩ wr (H.out.ext hE)
          have HCALL := Lib.hid hcall
          have HUN := Lib.hid (fun x (hx : lvPt C n (ls n) i x) => hU n i x hn hi0 hkey hx)
          clear hq1 hq2 hsn hgk hgn hcall
          go_wp2_with fail
          refine Calls.mono HCALL.out ?_
          rintro e w5 ⟨x, r, rfl, hp, hx5⟩
          have hxp : x = pt n i := by
            rcases hp with ⟨hbad, _⟩ | ⟨m, hm, _, hpa⟩
            · omega
            · obtain rfl : n = m := by omega
              rcases hpa with ⟨hbad, _⟩ | ⟨_, hl, _⟩
              · omega
              · exact HUN.out x hl
          rw [← hxp] at HSN
          have HX5 := Lib.hid hx5
          have ho5 := own_keepB HOWN.out (fun j hj => hx5.block j (own_lt HOWN.out hj))
          have HO5 := Lib.hid ho5
          have hE5 := hE.trans' hx5
          clear hp hxp hx5 ho5 HUN HCALL
          go_wp2_with (at_builtin; refine wpList_app1 w5 x pre _ w.heap.size 2 HO5.out 43 rfl _ _ rfl info_i64 Tryz.underlying43 (by rfl) (by rfl) ?a1 ?a2 ?_)
          case a1 => have := HPL.out; have := HLEN.out; have := HNP.out; have := HBB.out.2.1; have := HBB.out.2.2; omega
          case a2 => exact hE5.size
          intro v' w6 hw1 hw2 hw3
          have hE6 : Ext w w6 := ext_grown hE5 hw2 (fun j hj => own_blk HO5.out hj)
          have hkp6 : KeptP w1 w6 (some ⟨g, 0, none⟩) v' := fun g' hg' => by
            obtain rfl : g = g' := by have := Option.some.inj hg'; exact congrArg Addr.block this
            have hs5 := HX5.out.size
            have hgs := HGN.out.2.1
            refine ⟨(grown_old hw2 (by omega) (fun e => HGN.out.2.2 e.symm)).trans ((HX5.out.block g hgs).trans HGN.out.1), ?_, fun e => ?_⟩
            · have h6 := hw2.size
              rw [size_alloc] at h6
              omega
            · rcases hw3 with h3 | h3
              · exact HGN.out.2.2 (by rw [← h3]; exact e)
              · rw [h3] at e; have h7 : w5.heap.size + 1 = g := Option.some.inj e; omega
          obtain ⟨pv2, cv2, rfl⟩ := own_sl hw1
          have HW1 := Lib.hid hw1
          have HKP6 := Lib.hid hkp6
          clear hw1 hw2 hw3 hkp6
          go_wp2
          go_roundw
          case rel => exact ⟨pre.length + 1, pre ++ [x], by omega, by go_num, by rw [List.length_append]; rfl, HSN.out, by rw [List.length_append]; exact HW1.out, HKP6.out, hE6⟩
          case measure => simp [intOf]; omega
        · obtain hkn : pre.length = np := by omega
          have hfull : pre = cvV pt B lo hi := by
            rw [HPRE.out]
            refine List.take_of_length_le ?_
            unfold cvV
            rw [List.length_map, HPS.out, HNP.out, hkn]
            exact Nat.le_refl _
          have HFULL := Lib.hid hfull
          clear hfull
          go_wp2
          go_ret2
          exact .inr (.inr ⟨HC.out, _, rfl, by
            rw [← HFULL.out]
            have h := HOWN.out
            rw [hkn] at h ⊢
            exact h, hE⟩)
set_option maxRecDepth 20000 in
set_option maxHeartbeats 4000000 in
theorem RRange_c (s t : Nat) (C : Cfg) (B : Nat) (L : Nat → RLev) (ls : Nat → List Int) (w : World) (h : RKAt w s t C B L ls) (pt : Nat → Int → Int) (hU : Uniq C B ls pt) (hI : ∀ n i, I64 (pt n i)) (lo hi : Int) (hlo : U64 lo) (hhi : U64 hi) :
    Calls Tryz.prog 133 #[.pointer (some ⟨s, 0, none⟩), .int .u64 lo, .int .u64 hi] w (RangePost w B pt lo hi) := by
  have hlen : (cvV pt B lo hi).length ≤ 1000000 := by
    unfold cvV
    rw [List.length_map]
    have := cov_len B 0 lo hi
    have h2 := h.ok.b2
    have h3 := h.hB
    omega
  have hall : ∀ x ∈ cvV pt B lo hi, I64 x := by
    intro x hx
    unfold cvV at hx
    simp only [List.mem_map] at hx
    obtain ⟨p, _, rfl⟩ := hx
    exact hI _ _
  have HP := Lib.hid (RParts_c s t C B L ls w h pt hU lo hi hlo hhi)
  have HL := Lib.hid hlen
  have HA := Lib.hid hall
  clear h hlen hall
  go_enter Tryz.func133, Tryz.ntmps133
  go_wp2_with fail
  refine Calls.mono HP.out ?_
  rintro e w1 (⟨hc, ⟨v, rfl, _⟩, hx⟩ | ⟨hc, ⟨v, rfl, _⟩, hx⟩ | ⟨hc, v, rfl, ho, hx⟩)
  · have HC := Lib.hid hc
    clear hc
    go_wp2_with fail
    go_ret2
    exact ⟨.inl ⟨HC.out, rfl⟩, hx⟩
  · have HC := Lib.hid hc
    clear hc
    go_wp2_with fail
    go_ret2
    exact ⟨.inr (.inl ⟨HC.out, rfl⟩), hx⟩
  · have HC := Lib.hid hc
    have HI := Lib.hid (IntsAt.of_row ho)
    clear hc ho
    go_wp2_with fail
    refine Calls.mono (RSum_c _ v w1 HI.out HA.out HL.out) ?_
    rintro e w2 ⟨rfl, hx2⟩
    by_cases hT : I64 (lsum (cvV pt B lo hi))
    · rw [fitB_yes hT, fitN_yes hT]
      go_wp2_with fail
      go_ret2
      exact ⟨.inr (.inr (.inl ⟨HC.out, hT, rfl⟩)), hx.trans' hx2⟩
    · rw [fitB_no hT]
      go_wp2_with fail
      go_ret2
      exact ⟨.inr (.inr (.inr ⟨HC.out, hT, rfl⟩)), hx.trans' hx2⟩
end Go.Proofs.YtfhdjekpdifajaaGreat

/- Four things that lie apart. -/
namespace Go.Proofs.YtfhdjekpdifajaaGreat
set_option linter.unusedVariables false
open Go.RowKit
structure Own4 (N : Nat) (w : World) (F1 F2 F3 F4 : Nat → Prop) (P1 P2 P3 P4 : World → Prop) : Prop where
  o1 : Own F1 P1 w
  o2 : Own F2 P2 w
  o3 : Own F3 P3 w
  o4 : Own F4 P4 w
  d12 : Dj F1 F2
  d13 : Dj F1 F3
  d14 : Dj F1 F4
  d23 : Dj F2 F3
  d24 : Dj F2 F4
  d34 : Dj F3 F4
  n1 : ∀ k, F1 k → N ≤ k
  n2 : ∀ k, F2 k → N ≤ k
  n3 : ∀ k, F3 k → N ≤ k
  n4 : ∀ k, F4 k → N ≤ k
  nw : N ≤ w.heap.size
section
variable {N : Nat} {w w' : World} {F1 F2 F3 F4 : Nat → Prop} {P1 P2 P3 P4 : World → Prop}
theorem Own4.swap (h : Own4 N w F1 F2 F3 F4 P1 P2 P3 P4) : Own4 N w F2 F1 F3 F4 P2 P1 P3 P4 :=
  ⟨h.o2, h.o1, h.o3, h.o4, h.d12.symm, h.d23, h.d24, h.d13, h.d14, h.d34, h.n2, h.n1, h.n3, h.n4, h.nw⟩
theorem Own4.rot (h : Own4 N w F1 F2 F3 F4 P1 P2 P3 P4) : Own4 N w F3 F4 F1 F2 P3 P4 P1 P2 :=
  ⟨h.o3, h.o4, h.o1, h.o2, h.d34, h.d13.symm, h.d23.symm, h.d14.symm, h.d24.symm, h.d12, h.n3, h.n4, h.n1, h.n2, h.nw⟩
theorem Own4.swap2 (h : Own4 N w F1 F2 F3 F4 P1 P2 P3 P4) : Own4 N w F1 F2 F4 F3 P1 P2 P4 P3 := h.rot.swap.rot
theorem Own4.ext (h : Own4 N w F1 F2 F3 F4 P1 P2 P3 P4) (he : Ext w w') : Own4 N w' F1 F2 F3 F4 P1 P2 P3 P4 :=
  ⟨h.o1.ext he, h.o2.ext he, h.o3.ext he, h.o4.ext he, h.d12, h.d13, h.d14, h.d23, h.d24, h.d34, h.n1, h.n2, h.n3, h.n4, Nat.le_trans h.nw he.size⟩
/-- The first is changed, or put anew. -/
theorem Own4.step {F1' S : Nat → Prop} {P1' : World → Prop} (h : Own4 N w F1 F2 F3 F4 P1 P2 P3 P4) (hm : Mod S w w') (hS : ∀ k, S k → F1 k) (h1 : Own F1' P1' w') (hF : ∀ k, F1' k → F1 k ∨ w.heap.size ≤ k) : Own4 N w' F1' F2 F3 F4 P1' P2 P3 P4 := by
  refine ⟨h1, h.o2.mod hm (fun k hk hs => h.d12 k (hS k hs) hk), h.o3.mod hm (fun k hk hs => h.d13 k (hS k hs) hk), h.o4.mod hm (fun k hk hs => h.d14 k (hS k hs) hk), ?_, ?_, ?_, h.d23, h.d24, h.d34, fun k hk => ?_, h.n2, h.n3, h.n4, Nat.le_trans h.nw hm.size⟩
  · exact (h.o2.grow h.d12.symm hF).symm
  · exact (h.o3.grow h.d13.symm hF).symm
  · exact (h.o4.grow h.d14.symm hF).symm
  · rcases hF k hk with h2 | h2
    · exact h.n1 k h2
    · exact Nat.le_trans h.nw h2
theorem Own4.low {S : Nat → Prop} (h : Own4 N w F1 F2 F3 F4 P1 P2 P3 P4) (hm : Mod S w w') (hS : ∀ k, S k → F1 k) : Below N w w' := hm.below h.nw (fun k hk => h.n1 k (hS k hk))
end
theorem below_of {N : Nat} {w w' : World} (h : Ext w w') (hN : N ≤ w.heap.size) : Below N w w' := ⟨h.os, h.tape, h.output, h.size, fun k hk => h.block k (Nat.lt_of_lt_of_le hk hN)⟩
theorem cell_below {N : Nat} {w w' : World} (h : Below N w w') {b o : Nat} {v : Value} (hb : b < N) (hc : w.cell? ⟨b, o, none⟩ = some v) : w'.cell? ⟨b, o, none⟩ = some v := (h.cell (p := ⟨b, o, none⟩) hb).trans hc
theorem mod_below {N : Nat} {w w' : World} (h : Below N w w') : Mod (fun k => N ≤ k) w w' := ⟨h.os, h.tape, h.output, h.size, fun k _ hn => h.block k (Nat.lt_of_not_le hn)⟩
theorem Own4.mk4 {N z1 z2 z3 : Nat} {w : World} {F1 F2 F3 F4 : Nat → Prop} {P1 P2 P3 P4 : World → Prop} (o1 : Own F1 P1 w) (o2 : Own F2 P2 w) (o3 : Own F3 P3 w) (o4 : Own F4 P4 w)
    (b1 : ∀ k, F1 k → N ≤ k ∧ k < z1) (b2 : ∀ k, F2 k → z1 ≤ k ∧ k < z2) (b3 : ∀ k, F3 k → z2 ≤ k ∧ k < z3) (b4 : ∀ k, F4 k → z3 ≤ k) (h1 : N ≤ z1) (h2 : z1 ≤ z2) (h3 : z2 ≤ z3) (hw : N ≤ w.heap.size) : Own4 N w F1 F2 F3 F4 P1 P2 P3 P4 :=
  ⟨o1, o2, o3, o4, fun k h h' => by have := b1 k h; have := b2 k h'; omega, fun k h h' => by have := b1 k h; have := b3 k h'; omega, fun k h h' => by have := b1 k h; have := b4 k h'; omega, fun k h h' => by have := b2 k h; have := b3 k h'; omega, fun k h h' => by have := b2 k h; have := b4 k h'; omega, fun k h h' => by have := b3 k h; have := b4 k h'; omega,
    fun k h => (b1 k h).1, fun k h => by have := b2 k h; omega, fun k h => by have := b3 k h; omega, fun k h => by have := b4 k h; omega, hw⟩
end Go.Proofs.YtfhdjekpdifajaaGreat

/- A stack of the program and one of the references, side by side. -/
namespace Go.Proofs.YtfhdjekpdifajaaGreat
set_option linter.unusedVariables false
open Go.RowKit
/-- What an update leaves. -/
def nextK (C : Cfg) (B : Nat) (ls : Nat → List Int) (key d : Int) : Nat → List Int := bif decide (errK C B ls key d = 0) then updK C ls key d else ls
/-- A stack, and one of the references. -/
def KP (N : Nat) (w : World) (C : Cfg) (B s r : Nat) (ls ls' : Nat → List Int) : Prop :=
  ∃ g L t L2 z, KAt w s g C B L ls ∧ KLow z s g B L ∧ KFresh N B L ∧ RKAt w r t C B L2 ls' ∧ (∀ k, rkF r t C B L2 k → z ≤ k) ∧ N ≤ z ∧ z ≤ w.heap.size
noncomputable def ptU (C : Cfg) (ls : Nat → List Int) (n : Nat) (i : Int) : Int := by classical exact if h : ∃ x, I64 x ∧ lvPt C n (ls n) i x then h.choose else 0
theorem ptU_I (C : Cfg) (ls : Nat → List Int) (n : Nat) (i : Int) : I64 (ptU C ls n i) := by
  unfold ptU
  split
  · rename_i h; exact h.choose_spec.1
  · unfold I64; omega
def partR (B : Nat) (pt : Nat → Int → Int) (lo hi : Int) : List Int × Int := if hi < lo then ([], 1) else if 2 ^ B ≤ hi then ([], 2) else (cvV pt B lo hi, 0)
def rangR (B : Nat) (pt : Nat → Int → Int) (lo hi : Int) : Int × Int := if hi < lo then (0, 1) else if 2 ^ B ≤ hi then (0, 2) else (fitN (lsum (cvV pt B lo hi)), bif fitB (lsum (cvV pt B lo hi)) then 0 else 4)
theorem rang_of {w w' : World} {B : Nat} {pt : Nat → Int → Int} {lo hi : Int} {e : Ending} (h : RangePost w B pt lo hi e w') : e = .returned (.tuple #[.int .i64 (rangR B pt lo hi).1, .int .i64 (rangR B pt lo hi).2]) ∧ Ext w w' := by
  obtain ⟨h, hE⟩ := h
  refine ⟨?_, hE⟩
  unfold rangR
  rcases h with ⟨h1, rfl⟩ | ⟨⟨h1, h2⟩, rfl⟩ | ⟨⟨h1, h2⟩, h3, rfl⟩ | ⟨⟨h1, h2⟩, h3, rfl⟩
  · rw [if_pos h1]
  · rw [if_neg (by omega), if_pos h2]
  · rw [if_neg (by omega), if_neg (by omega), fitB_yes h3, fitN_yes h3]; rfl
  · rw [if_neg (by omega), if_neg (by omega), fitB_no h3, fitN, fitB_no h3]; rfl
section
variable {N : Nat} {w w' : World} {C : Cfg} {B s r : Nat} {ls ls' : Nat → List Int}
theorem KP.ext (h : KP N w C B s r ls ls') (he : Ext w w') : KP N w' C B s r ls ls' := by
  obtain ⟨g, L, t, L2, z, h1, h2, h3, h4, h5, h6, h7⟩ := h
  exact ⟨g, L, t, L2, z, h1.ext he, h2, h3, h4.ext he, h5, h6, Nat.le_trans h7 he.size⟩
theorem KP_upd (h : KP N w C B s r ls ls') (key d : Int) (hk : U64 key) (hd : I64 d) :
    Calls Tryz.prog 26 #[.pointer (some ⟨s, 0, none⟩), .int .u64 key, .int .i64 d] w fun e w' => e = .returned (.int .i64 (errK C B ls key d)) ∧ KP N w' C B s r (nextK C B ls key d) ls' ∧ Below N w w' := by
  obtain ⟨g, L, t, L2, z, h1, h2, h3, h4, h5, h6, h7⟩ := h
  refine (KUpdate_c s g C B L ls key d w h1 hd hk).mono ?_
  rintro e w' ⟨rfl, hK, hM⟩
  refine ⟨rfl, ⟨g, L, t, L2, z, hK, h2, h3, h4.keep (fun k hk => hM.block k (h4.lt hk) (fun hc => ?_)), h5, h6, Nat.le_trans h7 hM.size⟩, hM.below (Nat.le_trans h6 h7) (fun k hc => ?_)⟩
  · obtain ⟨n, hn, rfl⟩ := hc
    have := h2.lc n hn
    have := h5 _ hk
    omega
  · obtain ⟨n, hn, rfl⟩ := hc
    exact (h3 n hn).2.2
theorem KP_rupd (h : KP N w C B s r ls ls') (key d : Int) (hk : U64 key) (hd : I64 d) :
    Calls Tryz.prog 27 #[.pointer (some ⟨r, 0, none⟩), .int .u64 key, .int .i64 d] w fun e w' => e = .returned (.int .i64 (errK C B ls' key d)) ∧ KP N w' C B s r ls (nextK C B ls' key d) ∧ Below N w w' := by
  obtain ⟨g, L, t, L2, z, h1, h2, h3, h4, h5, h6, h7⟩ := h
  have hr : z ≤ r := h5 r (.inl rfl)
  refine (RKUpdate_c r t C B L2 ls' key d w h4 hk hd).mono ?_
  rintro e w' ⟨rfl, (⟨h0, t', L', hR, hF, hM⟩ | ⟨h0, hE⟩)⟩
  · have e : nextK C B ls' key d = updK C ls' key d := by unfold nextK; rw [decide_eq_true h0]; rfl
    rw [e]
    refine ⟨rfl, ⟨g, L, t', L', z, h1.keepN h2 (fun k hk hz => hM.block k hk (by omega)), h2, h3, hR, fun k hk => ?_, h6, Nat.le_trans h7 hM.size⟩, hM.below (Nat.le_trans h6 h7) (fun k hc => by omega)⟩
    rcases hF k hk with rfl | h
    · exact hr
    · omega
  · have e : nextK C B ls' key d = ls' := by unfold nextK; rw [decide_eq_false h0]; rfl
    rw [e]
    exact ⟨rfl, ⟨g, L, t, L2, z, h1.ext hE, h2, h3, h4.ext hE, h5, h6, Nat.le_trans h7 hE.size⟩, below_of hE (Nat.le_trans h6 h7)⟩
theorem ptU_uniq (h : KP N w C B s r ls ls') : Uniq C B ls' (ptU C ls') := by
  obtain ⟨g, L, t, L2, z, h1, h2, h3, h4, h5, h6, h7⟩ := h
  intro n i x hn h0 hi hx
  have hI : I64 x := ptA_I (r := 0) (.inr ⟨hi, hx, rfl⟩) (h4.lev n hn).fit
  have he : ∃ y, I64 y ∧ lvPt C n (ls' n) i y := ⟨x, hI, hx⟩
  unfold ptU
  rw [dif_pos he]
  exact lvPt_unique hx he.choose_spec.2
theorem KP_parts (h : KP N w C B s r ls ls) (lo hi : Int) (hlo : U64 lo) (hhi : U64 hi) :
    Calls Tryz.prog 143 #[.pointer (some ⟨s, 0, none⟩), .int .u64 lo, .int .u64 hi] w fun e w' => ∃ v, e = .returned (.tuple #[v, .int .i64 (partR B (ptU C ls) lo hi).2]) ∧ IntsAt w' v (partR B (ptU C ls) lo hi).1 ∧ Ext w w' := by
  have hU := ptU_uniq h
  obtain ⟨g, L, t, L2, z, h1, h2, h3, h4, h5, h6, h7⟩ := h
  refine (Parts_c s g C B L ls w h1 (ptU C ls) hU lo hi hlo hhi).mono ?_
  unfold partR
  rintro e w' (⟨a, rfl, hE⟩ | ⟨⟨a, b⟩, rfl, hE⟩ | ⟨⟨a, b⟩, v, rfl, ho, hE⟩)
  · rw [if_pos a]; exact ⟨_, rfl, .inl ⟨rfl, rfl⟩, hE⟩
  · rw [if_neg (by omega), if_pos b]; exact ⟨_, rfl, .inl ⟨rfl, rfl⟩, hE⟩
  · rw [if_neg (by omega), if_neg (by omega)]; exact ⟨v, rfl, IntsAt.of_row ho, hE⟩
theorem KP_rparts (h : KP N w C B s r ls ls) (lo hi : Int) (hlo : U64 lo) (hhi : U64 hi) :
    Calls Tryz.prog 179 #[.pointer (some ⟨r, 0, none⟩), .int .u64 lo, .int .u64 hi] w fun e w' => ∃ v, e = .returned (.tuple #[v, .int .i64 (partR B (ptU C ls) lo hi).2]) ∧ IntsAt w' v (partR B (ptU C ls) lo hi).1 ∧ Ext w w' := by
  have hU := ptU_uniq h
  obtain ⟨g, L, t, L2, z, h1, h2, h3, h4, h5, h6, h7⟩ := h
  refine (RParts_c r t C B L2 ls w h4 (ptU C ls) hU lo hi hlo hhi).mono ?_
  unfold partR
  rintro e w' (⟨a, ⟨v, rfl, ho⟩, hE⟩ | ⟨⟨a, b⟩, ⟨v, rfl, ho⟩, hE⟩ | ⟨⟨a, b⟩, v, rfl, ho, hE⟩)
  · rw [if_pos a]; exact ⟨v, rfl, IntsAt.of_row (xs := []) ho, hE⟩
  · rw [if_neg (by omega), if_pos b]; exact ⟨v, rfl, IntsAt.of_row (xs := []) ho, hE⟩
  · rw [if_neg (by omega), if_neg (by omega)]; exact ⟨v, rfl, IntsAt.of_row ho, hE⟩
theorem KP_range (h : KP N w C B s r ls ls) (lo hi : Int) (hlo : U64 lo) (hhi : U64 hi) :
    Calls Tryz.prog 80 #[.pointer (some ⟨s, 0, none⟩), .int .u64 lo, .int .u64 hi] w fun e w' => e = .returned (.tuple #[.int .i64 (rangR B (ptU C ls) lo hi).1, .int .i64 (rangR B (ptU C ls) lo hi).2]) ∧ Ext w w' := by
  have hU := ptU_uniq h
  obtain ⟨g, L, t, L2, z, h1, h2, h3, h4, h5, h6, h7⟩ := h
  exact (Range_c s g C B L ls w h1 (ptU C ls) hU (ptU_I C ls) lo hi hlo hhi).mono fun e w' h => rang_of h
theorem KP_rrange (h : KP N w C B s r ls ls) (lo hi : Int) (hlo : U64 lo) (hhi : U64 hi) :
    Calls Tryz.prog 133 #[.pointer (some ⟨r, 0, none⟩), .int .u64 lo, .int .u64 hi] w fun e w' => e = .returned (.tuple #[.int .i64 (rangR B (ptU C ls) lo hi).1, .int .i64 (rangR B (ptU C ls) lo hi).2]) ∧ Ext w w' := by
  have hU := ptU_uniq h
  obtain ⟨g, L, t, L2, z, h1, h2, h3, h4, h5, h6, h7⟩ := h
  exact (RRange_c r t C B L2 ls w h4 (ptU C ls) hU (ptU_I C ls) lo hi hlo hhi).mono fun e w' h => rang_of h
theorem KP.rok (h : KP N w C B s r ls ls') : C.Ok ∧ C.bits = B := by
  obtain ⟨g, L, t, L2, z, h1, h2, h3, h4, h5, h6, h7⟩ := h
  exact ⟨h1.ok, h1.hB⟩
end
end Go.Proofs.YtfhdjekpdifajaaGreat

/- Two sketches of the program and two of the references, side by side. -/
namespace Go.Proofs.YtfhdjekpdifajaaGreat
set_option linter.unusedVariables false
open Go.RowKit
def sF (s b c : Nat) (k : Nat) : Prop := k = s ∨ k = b ∨ k = c
theorem SAt.own {w : World} {s b c : Nat} {C : Cfg} {lv : Int} {R W : Nat} {l : List Int} (h : SAt w s b c C lv R W l) : Own (sF s b c) (fun w => SAt w s b c C lv R W l) w :=
  ⟨h, fun w w' h hk => h.keep (hk s (.inl rfl)) (hk b (.inr (.inl rfl))) (hk c (.inr (.inr rfl))), fun k hk => by
    rcases hk with rfl | rfl | rfl
    · exact h.lts
    · exact h.g.ltb
    · exact h.g.ltc⟩
set_option maxRecDepth 20000 in
set_option maxHeartbeats 4000000 in
theorem SSub_mode (s b c s2 b2 c2 : Nat) (C : Cfg) (lv : Int) (R W : Nat) (l l2 : List Int) (w : World) (h : SAt w s b c C lv R W l) (h2 : SAt w s2 b2 c2 C lv R W l2) (hm : C.mode = 2) :
    Calls Tryz.prog 115 #[.pointer (some ⟨s, 0, none⟩), .pointer (some ⟨s2, 0, none⟩)] w fun e w' => e = .returned (.int .i64 3) ∧ Ext w w' := by
  have HJ := Lib.hid (alike_yes s b c s2 b2 c2 C lv R W l l2 w h h2)
  have HH := Lib.hid h
  have HM := Lib.hid hm
  clear h h2 hm
  go_enter Tryz.func115, Tryz.ntmps115
  go_wp2_with fail
  refine Calls.mono HJ.out ?_
  rintro e w1 ⟨rfl, hx1⟩
  have h' := HH.out.ext hx1
  have c4 := (cell_of h'.ex 4).trans (show _ = some (Value.int .i64 2) by rw [← HM.out]; rfl)
  have l1 := h'.lts
  clear h'
  go_wp2
  go_ret
  exact ⟨rfl, hx1⟩
set_option maxRecDepth 20000 in
set_option maxHeartbeats 2000000 in
theorem SPoint_no (s b c : Nat) (C : Cfg) (lv : Int) (R W : Nat) (l : List Int) (key : Int) (w : World) (h : SAt w s b c C lv R W l) (hk1 : keys C lv ≤ key) :
    Calls Tryz.prog 252 #[.pointer (some ⟨s, 0, none⟩), .int .u64 key] w fun e w' => e = .returned (.tuple #[.int .i64 0, .int .i64 2]) ∧ Ext w w' := by
  have hlt := h.lts
  have c0 := (cell_of h.ex 0).trans rfl
  have c1 := (cell_of h.ex 1).trans rfl
  have c2 := (cell_of h.ex 2).trans rfl
  have c3 := (cell_of h.ex 3).trans rfl
  have c4 := (cell_of h.ex 4).trans rfl
  have c5 := (cell_of h.ex 5).trans rfl
  have c6 := (cell_of h.ex 6).trans rfl
  have hnil := fun (x : World) (p : Option Addr) (n k : Nat) => Lib.run_eql_slice_nil (P := Tryz.prog) x 250 3 p n k 0 0 Tryz.underlying250
  go_enter Tryz.func252, Tryz.ntmps252
  go_wp2
  have hC0 := af_drew w
  refine pi_start (fun w' => ∃ x : After w, w' = x.w) [] (by kernel_rfl) ?_
  refine pi_t 0 rfl (by kernel_rfl) (by kernel_rfl) (fun _ _ _ _ h => h) (fun K hK => ?_)
  go_big_quiet_op
  refine hK _ ?_
  clear hK K
  refine pi_t 1 rfl (by kernel_rfl) (by kernel_rfl) (fun _ _ _ _ h => h) (fun K hK => ?_)
  go_big_quiet_op
  refine hK _ ?_
  clear hK K
  refine pi_t 2 rfl (by kernel_rfl) (by kernel_rfl) (fun _ _ _ _ h => h) (fun K hK => ?_)
  go_big_quiet_op
  refine hK _ ?_
  clear hK K
  refine pi_c 3 (by assumption) rfl (by kernel_rfl) (by kernel_rfl) (fun _ _ _ _ h => h) (fun K hK => ?_)
  go_big_quiet_op
  refine hK _ ?_
  clear hK K
  refine pi_t 4 rfl (by kernel_rfl) (by kernel_rfl) (fun _ _ _ _ h => h) (fun K hK => ?_)
  go_big_quiet_op
  refine hK _ ?_
  clear hK K
  refine pi_t 5 rfl (by kernel_rfl) (by kernel_rfl) (fun _ _ _ _ h => h) (fun K hK => ?_)
  go_big_quiet_op
  refine hK _ ?_
  clear hK K
  refine pi_t 6 rfl (by kernel_rfl) (by kernel_rfl) (fun _ _ _ _ h => h) (fun K hK => ?_)
  go_big_quiet_op
  refine hK _ ?_
  clear hK K
  refine pi_c 7 (by assumption) rfl (by kernel_rfl) (by kernel_rfl) (fun _ _ _ _ h => h) (fun K hK => ?_)
  go_big_quiet_op
  refine hK _ ?_
  clear hK K
  refine pi_t 8 rfl (by kernel_rfl) (by kernel_rfl) (fun _ _ _ _ h => h) (fun K hK => ?_)
  go_big_quiet_op
  refine hK _ ?_
  clear hK K
  refine pi_l 9 rfl (by kernel_rfl) (fun K hK => ?_)
  go_wp2_with (go_at_call 254; refine (Columns_no C h.ok lv key h.lo h.hi hk1 _).mono ?_; rintro e w1 ⟨rfl, hx0⟩)
  refine hK _ _ (fun _ h => af_step h hx0) ?_
  clear hK K
  refine pi_t 10 rfl (by kernel_rfl) (by kernel_rfl) (fun _ _ _ _ h => h) (fun K hK => ?_)
  go_big_quiet_op
  refine hK _ ?_
  clear hK K
  refine pi_end (by kernel_rfl) ?_
  have hx : Ext w w1 := Ext.trans' (Below.drew (Ext.refl w)) hx0
  go_wp2
  go_ret2
  exact ⟨rfl, hx⟩
theorem SPointAny_c (s b c : Nat) (C : Cfg) (lv : Int) (R W : Nat) (l : List Int) (key : Int) (w : World) (h : SAt w s b c C lv R W l) (hk : U64 key) :
    Calls Tryz.prog 252 #[.pointer (some ⟨s, 0, none⟩), .int .u64 key] w fun e w' => ∃ x r, e = .returned (.tuple #[.int .i64 x, .int .i64 r]) ∧ ptS C lv R W l key x r ∧ Ext w w' := by
  by_cases hlt : key < keys C lv
  · refine (Point_c s b c C lv R W l key w h hk.1 hlt).mono ?_
    rintro e w' ⟨x, rfl, h1, h2⟩
    exact ⟨x, 0, rfl, .inr ⟨hlt, h1, rfl⟩, h2⟩
  · refine (SPoint_no s b c C lv R W l key w h (by omega)).mono ?_
    rintro e w' ⟨rfl, h2⟩
    exact ⟨0, 2, rfl, .inl ⟨by omega, rfl, rfl⟩, h2⟩
theorem ptS_unique {C : Cfg} {lv : Int} {R W : Nat} {l : List Int} {key x r y t : Int} (h : ptS C lv R W l key x r) (h2 : ptS C lv R W l key y t) : x = y ∧ r = t := by
  rcases h with ⟨a, rfl, rfl⟩ | ⟨a, b, rfl⟩ <;> rcases h2 with ⟨a2, rfl, rfl⟩ | ⟨a2, b2, rfl⟩
  · exact ⟨rfl, rfl⟩
  · omega
  · omega
  · exact ⟨kth_unique b b2, rfl⟩
/-- What an update leaves. -/
def updN (C : Cfg) (lv : Int) (R W : Nat) (l : List Int) (key d : Int) : List Int := if errU C lv R W l key d = 0 then updL C lv R W l key d else l
/-- What putting together answers and leaves. -/
noncomputable def jE (ms : List Int) : Int := by classical exact if allI ms then 0 else 4
noncomputable def jL (ms l : List Int) : List Int := by classical exact if allI ms then ms else l
theorem jE_yes {ms : List Int} (h : allI ms) : jE ms = 0 := by unfold jE; exact if_pos h
theorem jE_no {ms : List Int} (h : ¬ allI ms) : jE ms = 4 := by unfold jE; exact if_neg h
theorem jL_yes {ms l : List Int} (h : allI ms) : jL ms l = ms := by unfold jL; exact if_pos h
theorem jL_no {ms l : List Int} (h : ¬ allI ms) : jL ms l = l := by unfold jL; exact if_neg h
/-- The same, of taking away. -/
noncomputable def subE (C : Cfg) (l m : List Int) : Int := if C.mode = 2 then 3 else jE (minusL l m)
noncomputable def subN (C : Cfg) (l m : List Int) : List Int := if C.mode = 2 then l else jL (minusL l m) l
/-- Two sketches, and two of the references. -/
def Q4 (N : Nat) (w : World) (C : Cfg) (lv : Int) (R W : Nat) (s o r q : Nat) (l m l' m' : List Int) : Prop :=
  ∃ b c b2 c2 G G2, Own4 N w (sF s b c) (sF o b2 c2) (rsF r G R) (rsF q G2 R) (fun w => SAt w s b c C lv R W l) (fun w => SAt w o b2 c2 C lv R W m) (fun w => RSAt w r G C lv R W l') (fun w => RSAt w q G2 C lv R W m')
section
variable {N : Nat} {w w' : World} {C : Cfg} {lv : Int} {R W : Nat} {s o r q : Nat} {l m l' m' : List Int}
theorem Q4.swap (h : Q4 N w C lv R W s o r q l m l' m') : Q4 N w C lv R W o s q r m l m' l' := by
  obtain ⟨b, c, b2, c2, G, G2, h⟩ := h
  exact ⟨b2, c2, b, c, G2, G, h.swap.swap2⟩
theorem Q4.ext (h : Q4 N w C lv R W s o r q l m l' m') (he : Ext w w') : Q4 N w' C lv R W s o r q l m l' m' := by
  obtain ⟨b, c, b2, c2, G, G2, h⟩ := h
  exact ⟨b, c, b2, c2, G, G2, h.ext he⟩
theorem Q4_upd (h : Q4 N w C lv R W s o r q l m l' m') (key d : Int) (hk : U64 key) (hd : I64 d) :
    Calls Tryz.prog 253 #[.pointer (some ⟨s, 0, none⟩), .int .u64 key, .int .i64 d] w fun e w' => e = .returned (.int .i64 (errU C lv R W l key d)) ∧ Q4 N w' C lv R W s o r q (updN C lv R W l key d) m l' m' ∧ Below N w w' := by
  obtain ⟨b, c, b2, c2, G, G2, h⟩ := h
  refine (Update_c s b c C lv R W l key d w h.o1.h hd hk.1).mono ?_
  rintro e w' ⟨rfl, (⟨h0, hS, hM⟩ | ⟨h0, hE⟩)⟩
  · refine ⟨rfl, ⟨b, c, b2, c2, G, G2, ?_⟩, h.low hM (fun k hk => .inr (.inr hk))⟩
    unfold updN
    rw [if_pos h0]
    exact h.step hM (fun k hk => .inr (.inr hk)) hS.own (fun k hk => .inl hk)
  · refine ⟨rfl, ⟨b, c, b2, c2, G, G2, ?_⟩, h.low (hE.mod (fun _ => False)) (fun k hk => hk.elim)⟩
    unfold updN
    rw [if_neg h0]
    exact h.ext hE
theorem Q4_rupd (h : Q4 N w C lv R W s o r q l m l' m') (key d : Int) (hk : U64 key) (hd : I64 d) :
    Calls Tryz.prog 108 #[.pointer (some ⟨r, 0, none⟩), .int .u64 key, .int .i64 d] w fun e w' => e = .returned (.int .i64 (errU C lv R W l' key d)) ∧ Q4 N w' C lv R W s o r q l m (updN C lv R W l' key d) m' ∧ Below N w w' := by
  obtain ⟨b, c, b2, c2, G, G2, h⟩ := h
  refine (RSUpdate_c r G C lv R W l' key d w h.o3.h hk hd).mono ?_
  rintro e w' ⟨rfl, (⟨h0, hS, hM⟩ | ⟨h0, hE⟩)⟩
  · refine ⟨rfl, ⟨b, c, b2, c2, G, G2, ?_⟩, h.rot.low hM (fun k hk => .inr hk)⟩
    unfold updN
    rw [if_pos h0]
    exact (h.rot.step hM (fun k hk => .inr hk) hS.own (fun k hk => .inl hk)).rot
  · refine ⟨rfl, ⟨b, c, b2, c2, G, G2, ?_⟩, h.rot.low (hE.mod (fun _ => False)) (fun k hk => hk.elim)⟩
    unfold updN
    rw [if_neg h0]
    exact h.ext hE
theorem Q4_merge (h : Q4 N w C lv R W s o r q l m l' m') :
    Calls Tryz.prog 110 #[.pointer (some ⟨s, 0, none⟩), .pointer (some ⟨o, 0, none⟩)] w fun e w' => e = .returned (.int .i64 (jE (plusL l m))) ∧ Q4 N w' C lv R W s o r q (jL (plusL l m) l) m l' m' ∧ Below N w w' := by
  obtain ⟨b, c, b2, c2, G, G2, h⟩ := h
  refine Calls.mono (SMerge_c s b c o b2 c2 C lv R W l m w h.o1.h h.o2.h) ?_
  rintro e w' (⟨h0, rfl, hS, hM⟩ | ⟨h0, rfl, hE⟩)
  · refine ⟨by rw [jE_yes h0], ⟨b, c, b2, c2, G, G2, ?_⟩, h.low hM (fun k hk => .inr (.inr hk))⟩
    rw [jL_yes h0]
    exact h.step hM (fun k hk => .inr (.inr hk)) hS.own (fun k hk => .inl hk)
  · refine ⟨by rw [jE_no h0], ⟨b, c, b2, c2, G, G2, ?_⟩, h.low (hE.mod (fun _ => False)) (fun k hk => hk.elim)⟩
    rw [jL_no h0]
    exact h.ext hE
theorem Q4_sub (h : Q4 N w C lv R W s o r q l m l' m') :
    Calls Tryz.prog 115 #[.pointer (some ⟨s, 0, none⟩), .pointer (some ⟨o, 0, none⟩)] w fun e w' => e = .returned (.int .i64 (subE C l m)) ∧ Q4 N w' C lv R W s o r q (subN C l m) m l' m' ∧ Below N w w' := by
  obtain ⟨b, c, b2, c2, G, G2, h⟩ := h
  unfold subE subN
  by_cases hmd : C.mode = 2
  · rw [if_pos hmd, if_pos hmd]
    refine Calls.mono (SSub_mode s b c o b2 c2 C lv R W l m w h.o1.h h.o2.h hmd) ?_
    rintro e w' ⟨rfl, hE⟩
    exact ⟨rfl, ⟨b, c, b2, c2, G, G2, h.ext hE⟩, h.low (hE.mod (fun _ => False)) (fun k hk => hk.elim)⟩
  · rw [if_neg hmd, if_neg hmd]
    refine Calls.mono (SSubtract_c s b c o b2 c2 C lv R W l m w h.o1.h h.o2.h hmd) ?_
    rintro e w' (⟨h0, rfl, hS, hM⟩ | ⟨h0, rfl, hE⟩)
    · refine ⟨by rw [jE_yes h0], ⟨b, c, b2, c2, G, G2, ?_⟩, h.low hM (fun k hk => .inr (.inr hk))⟩
      rw [jL_yes h0]
      exact h.step hM (fun k hk => .inr (.inr hk)) hS.own (fun k hk => .inl hk)
    · refine ⟨by rw [jE_no h0], ⟨b, c, b2, c2, G, G2, ?_⟩, h.low (hE.mod (fun _ => False)) (fun k hk => hk.elim)⟩
      rw [jL_no h0]
      exact h.ext hE
theorem Q4_rplus (h : Q4 N w C lv R W s o r q l m l' m') :
    Calls Tryz.prog 114 #[.pointer (some ⟨r, 0, none⟩), .pointer (some ⟨q, 0, none⟩), .int .i64 1] w fun e w' => e = .returned (.int .i64 (jE (plusL l' m'))) ∧ Q4 N w' C lv R W s o r q l m (jL (plusL l' m') l') m' ∧ Below N w w' := by
  obtain ⟨b, c, b2, c2, G, G2, h⟩ := h
  refine Calls.mono (RSJoinPlus_c r q G G2 C lv R W l' m' w h.o3.h h.o4.h (fun h => absurd h (by decide))) ?_
  rintro e w' (⟨h0, rfl, G', hS, hF, hM⟩ | ⟨h0, rfl, hE⟩)
  · refine ⟨by rw [jE_yes h0], ⟨b, c, b2, c2, G', G2, ?_⟩, h.rot.low hM (fun k hk => hk)⟩
    rw [jL_yes h0]
    exact (h.rot.step hM (fun k hk => hk) hS.own hF).rot
  · refine ⟨by rw [jE_no h0], ⟨b, c, b2, c2, G, G2, ?_⟩, h.low (hE.mod (fun _ => False)) (fun k hk => hk.elim)⟩
    rw [jL_no h0]
    exact h.ext hE
theorem Q4_rminus (h : Q4 N w C lv R W s o r q l m l' m') :
    Calls Tryz.prog 114 #[.pointer (some ⟨r, 0, none⟩), .pointer (some ⟨q, 0, none⟩), .int .i64 (-1)] w fun e w' => e = .returned (.int .i64 (subE C l' m')) ∧ Q4 N w' C lv R W s o r q l m (subN C l' m') m' ∧ Below N w w' := by
  obtain ⟨b, c, b2, c2, G, G2, h⟩ := h
  unfold subE subN
  by_cases hmd : C.mode = 2
  · rw [if_pos hmd, if_pos hmd]
    refine Calls.mono (RSJoin_mode r q G G2 C lv R W l' m' w h.o3.h h.o4.h hmd) ?_
    rintro e w' ⟨rfl, hE⟩
    exact ⟨rfl, ⟨b, c, b2, c2, G, G2, h.ext hE⟩, h.low (hE.mod (fun _ => False)) (fun k hk => hk.elim)⟩
  · rw [if_neg hmd, if_neg hmd]
    refine Calls.mono (RSJoinMinus_c r q G G2 C lv R W l' m' w h.o3.h h.o4.h (fun _ => hmd)) ?_
    rintro e w' (⟨h0, rfl, G', hS, hF, hM⟩ | ⟨h0, rfl, hE⟩)
    · refine ⟨by rw [jE_yes h0], ⟨b, c, b2, c2, G', G2, ?_⟩, h.rot.low hM (fun k hk => hk)⟩
      rw [jL_yes h0]
      exact (h.rot.step hM (fun k hk => hk) hS.own hF).rot
    · refine ⟨by rw [jE_no h0], ⟨b, c, b2, c2, G, G2, ?_⟩, h.low (hE.mod (fun _ => False)) (fun k hk => hk.elim)⟩
      rw [jL_no h0]
      exact h.ext hE
theorem Q4_copy (h : Q4 N w C lv R W s o r q l m l' m') :
    Calls Tryz.prog 118 #[.pointer (some ⟨o, 0, none⟩)] w fun e w' => ∃ t, e = .returned (.pointer (some ⟨t, 0, none⟩)) ∧ Q4 N w' C lv R W t o r q m m l' m' ∧ Ext w w' := by
  obtain ⟨b, c, b2, c2, G, G2, h⟩ := h
  refine (SCopy_c o b2 c2 C lv R W m w h.o2.h).mono ?_
  rintro e w' ⟨t, b', c', rfl, hS, h1, h2, h3, hE⟩
  refine ⟨t, rfl, ⟨b', c', b2, c2, G, G2, h.step (hE.mod (fun _ => False)) (fun k hk => hk.elim) hS.own (fun k hk => .inr ?_)⟩, hE⟩
  rcases hk with rfl | rfl | rfl
  · exact h1
  · exact h2
  · exact h3
theorem Q4_rcopy (h : Q4 N w C lv R W s o r q l m l' m') :
    Calls Tryz.prog 106 #[.pointer (some ⟨q, 0, none⟩)] w fun e w' => ∃ t, e = .returned (.pointer (some ⟨t, 0, none⟩)) ∧ Q4 N w' C lv R W s o t q l m m' m' ∧ Ext w w' := by
  obtain ⟨b, c, b2, c2, G, G2, h⟩ := h
  refine (RSCopy_c q G2 C lv R W m' w h.o4.h).mono ?_
  rintro e w' ⟨t, G', rfl, hS, hF, hE⟩
  exact ⟨t, rfl, ⟨b, c, b2, c2, G', G2, (h.rot.step (hE.mod (fun _ => False)) (fun k hk => hk.elim) hS.own (fun k hk => .inr (hF k hk))).rot⟩, hE⟩
theorem Q4_pt (h : Q4 N w C lv R W s o r q l m l' m') (key : Int) (hk : U64 key) :
    Calls Tryz.prog 252 #[.pointer (some ⟨s, 0, none⟩), .int .u64 key] w fun e w' => ∃ x t, e = .returned (.tuple #[.int .i64 x, .int .i64 t]) ∧ ptS C lv R W l key x t ∧ Ext w w' := by
  obtain ⟨b, c, b2, c2, G, G2, h⟩ := h
  exact SPointAny_c s b c C lv R W l key w h.o1.h hk
theorem Q4_rpt (h : Q4 N w C lv R W s o r q l m l' m') (key : Int) (hk : U64 key) :
    Calls Tryz.prog 104 #[.pointer (some ⟨r, 0, none⟩), .int .u64 key] w fun e w' => ∃ x t, e = .returned (.tuple #[.int .i64 x, .int .i64 t]) ∧ ptS C lv R W l' key x t ∧ Ext w w' := by
  obtain ⟨b, c, b2, c2, G, G2, h⟩ := h
  exact RSPoint_c r G C lv R W l' key w h.o3.h hk
theorem Q4_chk (h : Q4 N w C lv R W s o r q l m l' m') (key d : Int) (hk : U64 key) (hd : I64 d) :
    Calls Tryz.prog 250 #[.pointer (some ⟨s, 0, none⟩), .int .u64 key, .int .i64 d] w fun e w' => e = .returned (.int .i64 (errU C lv R W l key d)) ∧ Ext w w' := by
  obtain ⟨b, c, b2, c2, G, G2, h⟩ := h
  exact Check_c s b c C lv R W l key d w h.o1.h hd hk.1
theorem Q4_rcp (h : Q4 N w C lv R W s o r q l m l' m') :
    Calls Tryz.prog 106 #[.pointer (some ⟨r, 0, none⟩)] w (RSNewPost w C lv R W l') := by
  obtain ⟨b, c, b2, c2, G, G2, h⟩ := h
  exact RSCopy_c r G C lv R W l' w h.o3.h
theorem Q4_cells (h : Q4 N w C lv R W s o r q l m l' m') :
    Calls Tryz.prog 170 #[.pointer (some ⟨s, 0, none⟩)] w fun e w' => ∃ v, e = .returned v ∧ IntsAt w' v l ∧ Ext w w' := by
  obtain ⟨b, c, b2, c2, G, G2, h⟩ := h
  refine (SCells_c s b c C lv R W l w h.o1.h).mono ?_
  rintro e w' ⟨v, rfl, h1, _, h2⟩
  exact ⟨v, rfl, IntsAt.of_row h1, h2⟩
/-- What a reference's sketch points to. -/
theorem Q4.grid (h : Q4 N w C lv R W s o r q l m l' m') : ∃ G : Gr, r < w.heap.size ∧ w.cell? ⟨r, 6, none⟩ = some (.pointer (some ⟨G.g, 0, none⟩)) ∧ RGAt w G R W l' := by
  obtain ⟨b, c, b2, c2, G, G2, h⟩ := h
  exact ⟨G, h.o3.h.lts, (cell_of h.o3.h.ex 6).trans rfl, h.o3.h.g⟩
theorem Q4.at1 (h : Q4 N w C lv R W s o r q l m l' m') : ∃ b c, SAt w s b c C lv R W l := by
  obtain ⟨b, c, b2, c2, G, G2, h⟩ := h
  exact ⟨b, c, h.o1.h⟩
end
end Go.Proofs.YtfhdjekpdifajaaGreat

/- exact.Load; stack.Load. -/
namespace Go.Proofs.YtfhdjekpdifajaaGreat
set_option linter.unusedVariables false
open Go.RowKit
theorem Put_e (b c W : Nat) (l : List Int) (w : World) (h : GAt w b c 1 W l) (k : Nat) (hk : k < W) (n : Int) :
    Calls Tryz.prog 257 #[.pointer (some ⟨b, 0, none⟩), .int .i64 0, .int .i64 k, .int .i64 n] w fun e w' => e = .returned (.bool true) ∧ w.setCell ⟨c, k, none⟩ (.int .i64 n) = w' := by
  have := Put_c b c 1 W l w h 0 k (by decide) hk n
  rw [Nat.zero_mul, Nat.zero_add] at this
  exact this
set_option maxRecDepth 20000 in
set_option maxHeartbeats 4000000 in
theorem ELoad_yes (s b c : Nat) (C : Cfg) (lv : Int) (N : Nat) (l m : List Int) (v : Value) (w : World) (h : EAt w s b c C lv N l) (hv : IntsAt w v m) (hI : allI m) (hl : m.length = N)
    (hne : ∀ g off n cap, v = .slice (some ⟨g, off, none⟩) n cap → g ≠ c) :
    Calls Tryz.prog 283 #[.pointer (some ⟨s, 0, none⟩), v] w fun e w' => e = .returned (.bool true) ∧ EAt w' s b c C lv N m ∧ Mod (fun k => k = c) w w' := by
  have hN1 : 1 ≤ N := h.g.w1
  have hN2 : N ≤ 128 := h.g.w2
  obtain ⟨vg, vo, vcap, rfl, hvl, hvc⟩ := hv.slice (by rw [hl]; omega)
  have hgc : vg ≠ c := hne _ _ _ _ rfl
  have hLl := h.len
  rw [hl] at hvc ⊢
  have c6 := (cell_of h.ex 6).trans rfl
  have lts := h.lts
  have HH := Lib.hid h
  have HVC := Lib.hid hvc
  have HL := Lib.hid hl
  have HLL := Lib.hid hLl
  clear h hv hl hne hvc hLl
  go_enter Tryz.func283, Tryz.ntmps283
  go_wp2_with fail
  refine Calls.mono (Width_c b c 1 N l _ HH.out.g) ?_
  rintro e w1 ⟨rfl, hx1⟩
  subst hx1
  clear c6
  go_wp2_with fail
  go_loopw [17] (fun u23 wr => ∃ k : Nat, k ≤ N ∧ u23 = .int .i64 k ∧ EAt wr s b c C lv N (mixL (fun j => m.getD j 0) (fun j => l.getD j 0) k N) ∧ Mod (fun i => i = c) w wr) (fun u23 _ => N - (intOf u23).toNat)
  case atStart =>
    refine ⟨0, Nat.zero_le _, rfl, ?_, Mod.refl _ _⟩
    have e : mixL (fun j => m.getD j 0) (fun j => l.getD j 0) 0 N = l := by
      apply list_ext_getD
      · rw [mixL_len, HLL.out]
      · intro i hi
        rw [mixL_len] at hi
        rw [mixL_get _ _ hi, if_neg (by omega)]
    rw [e]; exact HH.out
  case round =>
    obtain ⟨k, hk, rfl, hSr, hM⟩ := hrel
    have hMs := hM.size
    by_cases hgo : k < N
    · have x0 := (mcell hM (b := vg) hvl hgc (vo + k)).trans (HVC.out k hgo)
      have c6 := (cell_of hSr.ex 6).trans rfl
      have lr := hSr.lts
      have hlr : vg < wr.heap.size := by omega
      have hxi : I64 (m.getD k 0) := getD_i64 hI k
      have hms := mixL_set (fun j => m.getD j 0) (fun j => l.getD j 0) (k := k) (n := N)
      have HMS := Lib.hid hms
      have HSR := Lib.hid hSr
      clear hms hSr
      generalize hx : m.getD k 0 = x at *
      have HX := Lib.hid hx
      clear hx
      go_wp2_with fail
      refine Calls.mono (Put_e b c N _ _ HSR.out.g k hgo x) ?_
      rintro e w2 ⟨rfl, rfl⟩
      go_wp2
      go_roundw
      case rel =>
        refine ⟨k + 1, by omega, by go_num, ?_, mod_put' hM _⟩
        rw [← HMS.out]
        exact HSR.out.setl (by rw [mixL_len]; exact hgo) hxi
      case measure => simp [intOf]; omega
    · obtain rfl : k = N := by omega
      have e : mixL (fun j => m.getD j 0) (fun j => l.getD j 0) k k = m := by
        apply list_ext_getD
        · rw [mixL_len, HL.out]
        · intro i hi
          rw [mixL_len] at hi
          rw [mixL_get _ _ hi, if_pos hi]
      rw [e] at hSr
      have HSR := Lib.hid hSr
      clear hSr e
      go_wp2
      go_ret
      exact ⟨rfl, HSR.out, hM⟩
set_option maxRecDepth 20000 in
set_option maxHeartbeats 4000000 in
theorem ELoad_no (s b c : Nat) (C : Cfg) (lv : Int) (N : Nat) (l : List Int) (p : Option Addr) (n cap : Nat) (w : World) (h : EAt w s b c C lv N l) (hl : n ≠ N) :
    Calls Tryz.prog 283 #[.pointer (some ⟨s, 0, none⟩), .slice p n cap] w fun e w' => e = .returned (.bool false) ∧ w = w' := by
  have c6 := (cell_of h.ex 6).trans rfl
  have lts := h.lts
  have HH := Lib.hid h
  have hb : ((n : Int) == (N : Int)) = false := by simp; omega
  have hb2 : (n = N) = False := eq_false hl
  clear h
  go_enter Tryz.func283, Tryz.ntmps283
  go_wp2_with fail
  refine Calls.mono (Width_c b c 1 N l _ HH.out.g) ?_
  rintro e w1 ⟨rfl, hx1⟩
  subst hx1
  go_wp2
  go_ret
  exact ⟨rfl, rfl⟩
set_option maxRecDepth 20000 in
set_option maxHeartbeats 2000000 in
theorem KLoad_yes (s g : Nat) (C : Cfg) (B : Nat) (L : Nat → Lev) (ls : Nat → List Int) (w : World) (h : KAt w s g C B L ls) (n : Nat) (hn : n ≤ B) (m : List Int) (v : Value) (hv : IntsAt w v m) (hI : allI m) (hl : m.length = lvN C n)
    (hne : ∀ g off k cap, v = .slice (some ⟨g, off, none⟩) k cap → g ≠ (L n).c) :
    Calls Tryz.prog 22 #[.pointer (some ⟨s, 0, none⟩), .int .i64 n, v] w fun e w' => e = .returned (.bool true) ∧ KAt w' s g C B L (fun k => if k = n then m else ls k) ∧ Mod (fun k => k = (L n).c) w w' := by
  cases hx : isX C n with
  | true =>
    have hA := (h.lev n hn).x hx
    have hl' : m.length = kN C n := by rw [hl]; unfold lvN; rw [hx]; rfl
    have HX := Lib.hid hx
    clear hx
    go_enter Tryz.func22, Tryz.ntmps22
    go_wp2_with fail
    refine (level_yes s g C B L ls w h n hn).mono ?_
    rintro e w1 ⟨rfl, rfl⟩
    rw [lvV_x HX.out]
    go_wp2_with fail
    refine Calls.mono (ELoad_yes _ _ _ C _ _ _ m v _ hA hv hI hl' hne) ?_
    rintro e w2 ⟨rfl, hA2, hM⟩
    go_wp2
    go_ret
    exact ⟨rfl, h.put hn hM (.inl ⟨HX.out, hA2⟩), hM⟩
  | false =>
    have hA := (h.lev n hn).sk hx
    have hl' : m.length = rN C * wN C := by rw [hl]; unfold lvN; rw [hx]; rfl
    have HX := Lib.hid hx
    clear hx
    go_enter Tryz.func22, Tryz.ntmps22
    go_wp2_with fail
    refine (level_yes s g C B L ls w h n hn).mono ?_
    rintro e w1 ⟨rfl, rfl⟩
    rw [lvV_s HX.out]
    go_wp2_with fail
    refine Calls.mono (Load_yes _ _ _ C _ _ _ _ m v _ hA hv hI hl' hne) ?_
    rintro e w2 ⟨rfl, hA2, hM⟩
    go_wp2
    go_ret
    exact ⟨rfl, h.put hn hM (.inr ⟨HX.out, hA2⟩), hM⟩
end Go.Proofs.YtfhdjekpdifajaaGreat

/- What the arguments of the statements read as: a config, updates, a play. No condition. -/
namespace Go.Proofs.YtfhdjekpdifajaaGreat
set_option linter.unusedVariables false
open Go.ChangeShapes Go.WideShapes Go.ChangeAt Go.RowKit Go.Deep

theorem wf_u64 {x : Int} (h : (Lit.int IntKind.u64 x).wf = true) : U64 x := by
  have := bounds_u64 h
  exact ⟨this.1, by omega⟩
theorem wf_i64 {x : Int} (h : (Lit.int IntKind.i64 x).wf = true) : I64 x := by
  have := bounds_i64 h
  exact ⟨this.1, by omega⟩
section
variable {H : Type} {enc : TypeId × Value → H} {w : World} {base : Nat} {spare : Nat → Bool} {held : Bool}
set_option maxRecDepth 100000 in
/-- Five cells that read as a config. -/
theorem cfg_of {n : Nat} {cs : List Value} {y : DataW H × List MemPlace} (h : DataW.trod enc Tryz.prog w base spare held n 24 cs = some y) :
    ∃ C : Cfg, C.Raw ∧ cs = [.int .i64 C.bits, .int .i64 C.rows, .int .i64 C.width, .int .i64 C.mode, .int .u64 C.seed] := by
  obtain ⟨xs, n, _, _, hl, hx, hg⟩ := DataW.trod_struct Tryz.underlying24 h
  have hl' : cs.length = 5 := hl.trans (by kernel_rfl)
  match cs, hl' with
  | [c0, c1, c2, c3, c4], _ =>
    have hx' : xs.length = 5 := hx.trans (by kernel_rfl)
    match xs, hx' with
    | [x0, x1, x2, x3, x4], _ =>
      have e0 : DataW.trod enc Tryz.prog w base spare held n 3 [c0] = some x0 := hg 0 _ rfl
      have e1 : DataW.trod enc Tryz.prog w base spare held n 3 [c1] = some x1 := hg 1 _ rfl
      have e2 : DataW.trod enc Tryz.prog w base spare held n 3 [c2] = some x2 := hg 2 _ rfl
      have e3 : DataW.trod enc Tryz.prog w base spare held n 3 [c3] = some x3 := hg 3 _ rfl
      have e4 : DataW.trod enc Tryz.prog w base spare held n 22 [c4] = some x4 := hg 4 _ rfl
      obtain ⟨a0, h0, _, w0⟩ := DataW.trod_int Tryz.underlying3 e0
      obtain ⟨a1, h1, _, w1⟩ := DataW.trod_int Tryz.underlying3 e1
      obtain ⟨a2, h2, _, w2⟩ := DataW.trod_int Tryz.underlying3 e2
      obtain ⟨a3, h3, _, w3⟩ := DataW.trod_int Tryz.underlying3 e3
      obtain ⟨a4, h4, _, w4⟩ := DataW.trod_int Tryz.underlying22 e4
      simp only [List.cons.injEq, and_true] at h0 h1 h2 h3 h4
      exact ⟨⟨a0, a1, a2, a3, a4⟩, ⟨wf_i64 w0, wf_i64 w1, wf_i64 w2, wf_i64 w3, wf_u64 w4⟩, by rw [h0, h1, h2, h3, h4]⟩
set_option maxRecDepth 100000 in
/-- Two cells that read as an update. -/
theorem upd_of {n : Nat} {cs : List Value} {y : DataW H × List MemPlace} (h : DataW.trod enc Tryz.prog w base spare held n 138 cs = some y) :
    ∃ u : Int × Int, (U64 u.1 ∧ I64 u.2) ∧ cs = [.int .u64 u.1, .int .i64 u.2] := by
  obtain ⟨xs, n, _, _, hl, hx, hg⟩ := DataW.trod_struct Tryz.underlying138 h
  have hl' : cs.length = 2 := hl.trans (by kernel_rfl)
  match cs, hl' with
  | [c0, c1], _ =>
    have hx' : xs.length = 2 := hx.trans (by kernel_rfl)
    match xs, hx' with
    | [x0, x1], _ =>
      have e0 : DataW.trod enc Tryz.prog w base spare held n 22 [c0] = some x0 := hg 0 _ rfl
      have e1 : DataW.trod enc Tryz.prog w base spare held n 2 [c1] = some x1 := hg 1 _ rfl
      obtain ⟨a0, h0, _, w0⟩ := DataW.trod_int Tryz.underlying22 e0
      obtain ⟨a1, h1, _, w1⟩ := DataW.trod_int Tryz.underlying2 e1
      simp only [List.cons.injEq, and_true] at h0 h1
      exact ⟨(a0, a1), ⟨wf_u64 w0, wf_i64 w1⟩, by rw [h0, h1]⟩
theorem add_plain0 (b off i : Nat) : (Addr.add ⟨b, off, none⟩ i) = ⟨b, off + i, none⟩ := by
  unfold Addr.add
  by_cases h : i = 0
  · subst h; simp
  · simp [h]
theorem choose_list {α : Type} (P : Nat → α → Prop) : ∀ n, (∀ i, i < n → ∃ x, P i x) → ∃ l : List α, l.length = n ∧ ∀ i (h : i < l.length), P i l[i] := by
  intro n
  induction n with
  | zero => intro _; exact ⟨[], rfl, fun i h => by simp at h⟩
  | succ n ih =>
    intro h
    obtain ⟨l, hl, hP⟩ := ih (fun i hi => h i (by omega))
    obtain ⟨x, hx⟩ := h n (by omega)
    refine ⟨l ++ [x], by simp [hl], fun i hi => ?_⟩
    by_cases e : i < l.length
    · rw [List.getElem_append_left e]; exact hP i e
    · have : i = n := by simp at hi; omega
      subst this
      rw [List.getElem_append_right (by omega)]
      simp [hl, hx]
/-- A cell that reads as a slice of updates. -/
theorem ups_of {n : Nat} {v : Value} {y : DataW H × List MemPlace} (h : DataW.trod enc Tryz.prog w 0 (fun _ => true) held n 105 [v] = some y) :
    ∃ us : List (Int × Int), UpsOk us ∧ UpsAt w v us ∧ (us = [] ∨ ∃ el sp : List (DataW H), y.1 = .slice el sp ∧ el.length = us.length) := by
  rcases open_slice Tryz.underlying105 h with ⟨hcs, _⟩ | ⟨a, len, cap, m, n', D, Pl, hcs, _, hlc, hcm, hm, hx, hi⟩
  · simp only [List.cons.injEq, and_true] at hcs
    subst hcs
    exact ⟨[], (by intro u hu; cases hu), .inl ⟨⟨_, rfl⟩, rfl⟩, .inl rfl⟩
  · simp only [List.cons.injEq, and_true] at hcs
    subst hcs
    simp only [if_true] at hm
    rw [hm] at hi hx
    clear hm
    have hC : Tryz.prog.cellsOf 138 = 2 := by kernel_rfl
    rw [hC] at hi
    have key : ∀ i, i < len → ∃ u : Int × Int, (U64 u.1 ∧ I64 u.2) ∧ w.cell? (a.add (i * 2)) = some (.int .u64 u.1) ∧ w.cell? (a.add (i * 2 + 1)) = some (.int .i64 u.2) := by
      intro i hil
      obtain ⟨cs', hc, ht⟩ := hi i (by omega)
      obtain ⟨u, hu, rfl⟩ := upd_of ht
      obtain ⟨_, _, hat⟩ := World.cells?_some hc
      refine ⟨u, hu, ?_, ?_⟩
      · have := hat 0 (by omega); rw [add_add, Nat.add_zero] at this; exact this
      · have := hat 1 (by omega); rw [add_add] at this; exact this
    obtain ⟨us, hul, hus⟩ := choose_list _ len key
    by_cases h0 : cap = 0
    · have hl0 : len = 0 := by omega
      subst hl0 h0
      obtain rfl : us = [] := List.length_eq_zero_iff.1 hul
      exact ⟨[], (by intro u hu; cases hu), .inl ⟨⟨_, rfl⟩, rfl⟩, .inl rfl⟩
    · obtain ⟨cs', hc, ht⟩ := hi 0 (by omega)
      obtain ⟨u, _, rfl⟩ := upd_of ht
      obtain ⟨_, _, hat⟩ := World.cells?_some hc
      have h1 := hat 0 (by omega)
      obtain ⟨b, off, spot⟩ := a
      have hspot : spot = none := by simpa [Addr.add] using World.cell?_spot h1
      subst hspot
      have hb : b < w.heap.size := by
        rcases Nat.lt_or_ge b w.heap.size with h' | h'
        · exact h'
        · simp [World.cell?, Addr.add, Array.getElem?_eq_none h'] at h1
      refine ⟨us, ?_, .inr ⟨b, off, cap, by rw [hul], hb, fun k hk => ?_⟩, .inr ⟨_, _, by rw [hx], by simp [hul]⟩⟩
      · intro u hu
        obtain ⟨i, hi', rfl⟩ := List.getElem_of_mem hu
        exact (hus i hi').1
      · have := (hus k hk).2
        have hg : us.getD k (0, 0) = us[k] := by simp [hk]
        rw [hg]
        rw [add_plain0, add_plain0] at this
        simpa only [Nat.add_assoc] using this
theorem reach_of {ts : List TypeId} {ds : List (DataW H)} {j : Nat} {t : TypeId} {d : DataW H} (hsz : (DataW.weightsEach Tryz.prog ts ds).all (· ≤ reachBytes) = true) (ht : ts[j]? = some t) (hd : ds[j]? = some d) {n : Nat} (hn : n ∈ d.weights Tryz.prog t) : n ≤ reachBytes := by
  have := List.all_eq_true.1 hsz _ (DataW.weights_mem_each ht hd n hn)
  simpa using this
end
end Go.Proofs.YtfhdjekpdifajaaGreat

/- What a play of the later laws reads as. No condition. -/
namespace Go.Proofs.YtfhdjekpdifajaaGreat
set_option linter.unusedVariables false
open Go.ChangeShapes Go.WideShapes Go.ChangeAt Go.RowKit Go.Deep

theorem own : ownKnob Tryz.prog.godebug = none := by kernel_rfl
theorem laidOut : laidOutB Tryz.prog = true := by kernel_rfl
section
variable {H : Type} {enc : TypeId × Value → H} {w : World} {held : Bool}
set_option maxRecDepth 100000 in
theorem cfgarg_of {r : Reach} {b0 : Nat} {v : Value} {d : DataW H} {p : List MemPlace} (hv : Value.okWide Tryz.prog w r b0 24 v) (h : DataW.Trod enc Tryz.prog w 0 (fun _ => true) held 24 v d p) :
    ∃ (x : Cfg), x.Raw ∧ v = .agg #[.int .i64 x.bits, .int .i64 x.rows, .int .i64 x.width, .int .i64 x.mode, .int .u64 x.seed] := by
  obtain ⟨cs, rfl, hsz⟩ := okWide_struct Tryz.underlying24 hv
  obtain ⟨fuel, hf⟩ := h
  obtain ⟨l⟩ := cs
  obtain ⟨x, hxr, hc⟩ := cfg_of hf
  have hc' : l = _ := hc
  subst hc'
  exact ⟨x, hxr, rfl⟩
set_option maxRecDepth 100000 in
theorem updarg_of {r : Reach} {b0 : Nat} {v : Value} {d : DataW H} {p : List MemPlace} (hv : Value.okWide Tryz.prog w r b0 138 v) (h : DataW.Trod enc Tryz.prog w 0 (fun _ => true) held 138 v d p) :
    ∃ (n m : Int), U64 n ∧ I64 m ∧ v = .agg #[.int .u64 n, .int .i64 m] := by
  obtain ⟨cs, rfl, hsz⟩ := okWide_struct Tryz.underlying138 hv
  obtain ⟨fuel, hf⟩ := h
  obtain ⟨l⟩ := cs
  obtain ⟨u, hu, hc⟩ := upd_of hf
  have hc' : l = _ := hc
  subst hc'
  exact ⟨u.1, u.2, hu.1, hu.2, rfl⟩
end
end Go.Proofs.YtfhdjekpdifajaaGreat
