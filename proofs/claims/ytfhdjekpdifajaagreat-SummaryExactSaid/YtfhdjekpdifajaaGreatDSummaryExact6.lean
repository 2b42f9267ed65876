/- Part. No condition. -/
import Derived.Test.YtfhdjekpdifajaaGreatDSummaryExact4
import Derived.Test.YtfhdjekpdifajaaGreatDSummaryExact5
import Derived.Test.YtfhdjekpdifajaaGreatDSummaryExact1
import Derived.Test.YtfhdjekpdifajaaGreatDSummaryExact3
import Derived.Test.YtfhdjekpdifajaaGreatDSummaryExact2
import Derived.Laws.EntriesVeiled
namespace Go.Proofs.YtfhdjekpdifajaaGreat
set_option linter.unusedVariables false
open Go.RowKit
attribute [local go_sem] Oper.semAt_some
/-- What Point tells is one number. -/
def Uniq (C : Cfg) (B : Nat) (ls : Nat → List Int) (pt : Nat → Int → Int) : Prop := ∀ (n : Nat) (i x : Int), n ≤ B → 0 ≤ i → i < keys C n → lvPt C n (ls n) i x → x = pt n i
def cvV (pt : Nat → Int → Int) (B : Nat) (lo hi : Int) : List Int := (covL B 0 lo hi).map fun p => pt p.1 p.2
def PartsPost (w : World) (B : Nat) (pt : Nat → Int → Int) (lo hi : Int) (e : Ending) (w' : World) : Prop :=
  (hi < lo ∧ e = .returned (.tuple #[.slice none 0 0, .int .i64 1]) ∧ Ext w w') ∨
  ((lo ≤ hi ∧ 2 ^ B ≤ hi) ∧ e = .returned (.tuple #[.slice none 0 0, .int .i64 2]) ∧ Ext w w') ∨
  ((lo ≤ hi ∧ hi < 2 ^ B) ∧ ∃ v, e = .returned (.tuple #[v, .int .i64 0]) ∧ w'.ownsRow w.heap.size 2 1 v (cvV pt B lo hi).length (ints (cvV pt B lo hi)) ∧ Ext w w')
set_option maxRecDepth 20000 in
set_option maxHeartbeats 1000000 in
/-- The closure that asks for a piece. -/
theorem PartsAsk_c (s g : Nat) (C : Cfg) (B : Nat) (L : Nat → Lev) (ls : Nat → List Int) (pt : Nat → Int → Int) (hU : Uniq C B ls pt) (b : Nat) (n : Nat) (i : Int) (hn : n ≤ B) (h0 : 0 ≤ i) (h1 : i < keys C n) (w : World) (h : KAt w s g C B L ls)
    (hb : w.cell? ⟨b, 0, none⟩ = some (.pointer (some ⟨s, 0, none⟩))) (hbl : b < w.heap.size) :
    Calls Tryz.prog 187 #[.agg #[.int .i64 n, .int .u64 i], .pointer (some ⟨b, 0, none⟩)] w fun e w' => e = .returned (.int .i64 (pt n i)) ∧ Ext w w' := by
  have HH := Lib.hid h
  clear h
  go_enter Tryz.func187, Tryz.ntmps187
  go_wp2_with fail
  refine Calls.mono (KPoint_c s g C B L ls _ (HH.out.ext (Ext.alloc' _ _)) n hn i h0 h1) ?_
  rintro e w1 ⟨x, rfl, hx, hx1⟩
  have hE : Ext w w1 := (Ext.alloc' _ _).trans' hx1
  obtain rfl := hU n i x hn h0 h1 hx
  go_wp2
  go_ret
  exact ⟨rfl, hE⟩
set_option maxRecDepth 100000 in
set_option maxHeartbeats 4000000 in
theorem Parts_c (s g : Nat) (C : Cfg) (B : Nat) (L : Nat → Lev) (ls : Nat → List Int) (w : World) (h : KAt w s g C B L ls) (pt : Nat → Int → Int) (hU : Uniq C B ls pt) (lo hi : Int) (hlo : U64 lo) (hhi : U64 hi) :
    Calls Tryz.prog 143 #[.pointer (some ⟨s, 0, none⟩), .int .u64 lo, .int .u64 hi] w (PartsPost w B pt lo hi) := by
  have hmf : ∀ (fn : Fn) (first cap : Array Value) (w : World), (Instr.makeFunc fn first cap).run Tryz.prog w = .ok (.func fn first cap) w := fun _ _ _ _ => rfl
  have hok := h.ok
  have hB := h.hB
  have hb1 := hok.b1
  have hb2 := hok.b2
  have hls := h.lts
  have HH := Lib.hid h
  have hkk : ∀ n : Nat, n ≤ B → keys C n = 2 ^ (B - n) := fun n hn => by unfold keys; rw [hB]; congr 1; omega
  have HB := Lib.hid hB
  have HK := Lib.hid hkk
  clear h hkk
  refine (callsIn_wide (n := 5)).1 ?_
  refine callsIn_of_wp_marks Tryz.func143 rfl trivial ?_ rfl
  simp only [Tryz.ntmps143, List.size_toArray, List.length_cons, List.length_nil, Nat.reduceAdd, Nat.reduceSub, Array.replicate_succ, Array.replicate_zero, List.push_toArray, List.append_toArray, List.nil_append, List.cons_append]
  by_cases hlt : hi < lo
  · gi_wp2_with fail
    exact ⟨_, results_tmp2 rfl _ _ _, .inl ⟨hlt, rfl, Ext.alloc' _ _⟩⟩
  · gi_wp2_with fail
    refine ⟨trivial, (callsIn_wide.2 (SKConfig_c s g C B L ls _ (HH.out.ext (Ext.alloc' _ _)))).mono ?_⟩
    rintro e w1 ⟨rfl, hx1⟩
    have hE1 : Ext w w1 := (Ext.alloc' _ _).trans' hx1
    have hp1 := hx1.keep (heap_at w (.cells #[.pointer (some ⟨s, 0, none⟩)] 28) rfl)
    clear hx1
    rw [HB.out]
    gi_wp2_with fail
    refine ⟨trivial, (callsIn_wide.2 (Cover_c B (by omega) (by omega) lo hi hlo hhi _)).mono ?_⟩
    rintro e w2 (⟨hc, rfl, hx2⟩ | ⟨hc, v, rfl, ho, hx2⟩)
    · gi_wp2_with fail
      exact ⟨_, results_tmp2 rfl _ _ _, .inr (.inl ⟨by omega, rfl, hE1.trans' hx2⟩)⟩
    · have hE2 := hE1.trans' hx2
      have hp2 := hx2.keep hp1
      obtain ⟨pv, cv, rfl⟩ := own_sl ho
      have hsz2 := hE2.size
      have HO := Lib.hid ho
      clear ho hx2 hE1 hp1
      gi_wp2_with fail
      refine ⟨trivial, (callsIn_wide.2 (Values_c pv _ cv _)).mono ?_⟩
      rintro e w3 ⟨rfl, rfl⟩
      gi_wp2_with fail
      obtain ⟨W0, hW0⟩ : ∃ W0, ((w2.alloc (.cells #[.func (.func 187) #[] #[.pointer (some ⟨w.heap.size, 0, none⟩)]] 275)).alloc (.cells #[.slice none 0 0] 43)).alloc (.cells #[.slice pv (covL B 0 lo hi).length cv] 165) = W0 := ⟨_, rfl⟩
      have hsz0 : W0.heap.size = w2.heap.size + 3 := by rw [← hW0]; simp
      have hx0 : Ext w2 W0 := by rw [← hW0]; exact ((Ext.alloc' _ _).allocR _).allocR _
      have b0 : Boxed W0 w2.heap.size 275 (.func (.func 187) #[] #[.pointer (some ⟨w.heap.size, 0, none⟩)]) := by rw [← hW0]; exact ((Boxed.new w2 _ _).alloc _).alloc _
      have b1 : Boxed W0 (w2.heap.size + 1) 43 (.slice none 0 0) := by
        have := (Boxed.new (w2.alloc (.cells #[.func (.func 187) #[] #[.pointer (some ⟨w.heap.size, 0, none⟩)]] 275)) 43 (.slice none 0 0)).alloc (.cells #[.slice pv (covL B 0 lo hi).length cv] 165)
        rw [World.size_alloc] at this
        rw [← hW0]; exact this
      have b2 : W0.cell? ⟨w2.heap.size + 1 + 1, 0, none⟩ = some (.slice pv (covL B 0 lo hi).length cv) := by
        rw [← hW0]
        exact (cell_of (heap_at _ _ (by simp)) 0).trans rfl
      rw [hW0]
      clear hW0
      have hpcs : PcsAt w2.heap.size W0 (.slice pv (covL B 0 lo hi).length cv) (covL B 0 lo hi) := (PcsAt.of_own HO.out (Nat.le_refl _)).below hx0
      have hbd := cov_bd B 0 lo hi hlo.1 hc.1 hc.2
      have hlv := cov_lev B 0 lo hi
      have hlen := cov_len B 0 lo hi
      have HBD := Lib.hid hbd
      have HLV := Lib.hid hlv
      have HLEN := Lib.hid hlen
      have HC := Lib.hid hc
      clear hbd hlv hc hlen
      refine wpIn_rangeFunc_ownH rfl (by decide) (gf := 216) (lb := #[.pointer (some ⟨w2.heap.size + 1 + 1, 0, none⟩)]) rfl trivial (enters_of Tryz.func216 (by kernel_rfl) rfl)
        (values_stops 4 (w2.heap.size + 1 + 1) w2.heap.size _ (covL B 0 lo hi) (by have := HLEN.out; omega) W0 (by omega) (by omega) b2 hpcs) belowK_t (belowK_b (by omega)) (Below.refl _ _) (fun _ => rfl)
        (fun pre W => ((∃ v, Boxed W (w2.heap.size + 1) 43 v ∧ W.ownsRow w2.heap.size 2 1 v (pre.map (fun x => pt x.1.1 x.1.2)).length (ints (pre.map (fun x => pt x.1.1 x.1.2))) ∧ True) ∧ Boxed W w2.heap.size 275 (.func (.func 187) #[] #[.pointer (some ⟨w.heap.size, 0, none⟩)])) ∧ Below w2.heap.size w2 W)
        (fun _ _ _ => False)
        (OwnFrom.and (OwnFrom.and (Own.from (holdsRow_own w2.heap.size (w2.heap.size + 1) 43 2 1 (fun pre : List {p : Nat × Int // p ∈ covL B 0 lo hi} => (pre.map (fun x => pt x.1.1 x.1.2)).length) (fun pre => ints (pre.map (fun x => pt x.1.1 x.1.2))) (fun _ _ => True)) _) (Own.from (boxed_own _ _ _) _)) (ownFrom_below (Nat.le_refl _) (by omega)))
        (fun _ _ _ _ _ hs _ _ => hs)
        ⟨⟨⟨_, b1, ⟨rfl, .inl ⟨rfl, rfl⟩⟩, trivial⟩, b0⟩, hx0⟩
        (fun x a' W => ∃ Bx, w2.heap.size + 1 < Bx ∧ W.heap[Bx]? = some (.cells #[.int .i64 (x.1.1 : Int), .int .u64 x.1.2] 39 (0, 0)) ∧ a' = { tmps := #[.pointer (some ⟨s, 0, none⟩), .int .u64 lo, .int .u64 hi, .pointer (some ⟨w.heap.size, 0, none⟩), undef, undef, .slice none 0 0, .int .i64 0, .slice pv (covL B 0 lo hi).length cv, .bool true, .pointer (some ⟨w2.heap.size, 0, none⟩), .pointer (some ⟨w2.heap.size + 1, 0, none⟩), .pointer (some ⟨Bx, 0, none⟩), .int .u64 lo, .int .u64 hi, .bool false, .tuple #[.slice pv (covL B 0 lo hi).length cv, .bool true], .pointer (some ⟨s, 0, none⟩), .agg #[.int .i64 B, .int .i64 C.rows, .int .i64 C.width, .int .i64 C.mode, .int .u64 C.seed], .int .i64 B, .int .u64 lo, .int .u64 hi, .tuple #[.slice pv (covL B 0 lo hi).length cv, .bool true], .slice pv (covL B 0 lo hi).length cv, .bool true, .bool true, .bool false, .func (.func 187) #[] #[.pointer (some ⟨w.heap.size, 0, none⟩)], .slice pv (covL B 0 lo hi).length cv, .func (.func 216) #[] #[.pointer (some ⟨w2.heap.size + 1 + 1, 0, none⟩)], .agg #[.int .i64 (x.1.1 : Int), .int .u64 x.1.2], undef, undef, undef, undef, undef, undef, undef], defers := [] })
        (fun x a' _ X Y row hs hg hr => by
          obtain ⟨Bx, h1, h2, h3⟩ := hs
          refine ⟨Bx, h1, (hg.block Bx (lt_of h2) (fun e => ?_)).trans h2, h3⟩
          obtain ⟨_, o, ho, hc⟩ := hr Bx e.symm
          rw [h2] at ho; cases ho; cases hc)
        ?assign ?body ?done ?stop
      case assign =>
        rintro l pre x W K ⟨⟨⟨v, hv, hrow, _⟩, hf⟩, hB1⟩ hK
        have := hB1.size
        have := hv.lt
        dsimp only [pcEnc]
        gi_wp2
        exact hK _ _ ((KeepsOthers.alloc _ _).from _) ((Below.refl _ W).alloc hB1.size _) ⟨⟨⟨v, hv.alloc _, hrow.alloc _, trivial⟩, hf.alloc _⟩, hB1.alloc hB1.size _⟩ ⟨W.heap.size, hv.lt, heap_at _ _ rfl, rfl⟩
      case body =>
        rintro l pre x a' W hl _ ⟨⟨⟨v, hv, hrow, _⟩, hf⟩, hB1⟩ ⟨Bx, hBx, hx, rfl⟩ hlen
        have hlv := HLV.out x.1 x.2
        have hbd := HBD.out x.1 x.2
        have hlv2 : x.1.1 ≤ B := by omega
        have hlt2 : x.1.2 < keys C x.1.1 := by rw [HK.out _ hlv2]; rw [Nat.zero_add] at hbd; exact hbd.2
        have hK1 := (HH.out.ext hE2).ext hB1
        have hE4 : Ext w2 W := hB1
        have hp3 := hE4.keep hp2
        have hpl := lt_of hp3
        have hpc := (cell_of hp3 0).trans rfl
        have hvl := hv.lt
        have hvc := hv.cell
        have hfl := hf.lt
        have hfc := hf.cell
        have hxl := lt_of hx
        have x0 := (cell_of hx 0).trans rfl
        have x1 := (cell_of hx 1).trans rfl
        have hsW := hB1.size
        obtain ⟨pw, nw, cw, hvw⟩ : ∃ p n c, v = .slice p n c := by obtain ⟨p, c, h⟩ := own_sl hrow; exact ⟨p, _, c, h⟩
        subst hvw
        obtain ⟨S, hS⟩ : ∃ S : Nat → Prop, S = fun k => (Value.slice pw nw cw).ownBlock = some k := ⟨_, rfl⟩
        have nS1 : ¬ S (w2.heap.size + 1) := by rw [hS]; exact fun e => hv.not_row (by decide) hrow e.symm
        have nS0 : ¬ S w2.heap.size := by rw [hS]; exact fun e => hf.not_row (by decide) hrow e.symm
        have nSx : ¬ S Bx := by rw [hS]; exact own_notB hrow hx (by decide)
        have HS := Lib.hid hS
        clear hS
        have HV := Lib.hid hv
        have HF := Lib.hid hf
        have HR := Lib.hid hrow
        have HX := Lib.hid hx
        clear hv hf hrow hx hp3
        gi_wp2
        refine pi_startR (fun w' => ∃ x : AftS S W, w' = x.w) [6] (by kernel_rfl) (fun ⟨_, _, hh⟩ => hh) (by kernel_rfl) ?_
        have hC0 := afs_drew S W
        refine pi_c 0 (by assumption) rfl (by kernel_rfl) (by kernel_rfl) (fun _ _ _ _ h => h) (fun K hK => ?_)
        go_big_quiet_op
        refine hK _ ?_
        clear hK K
        refine pi_c 1 (by assumption) rfl (by kernel_rfl) (by kernel_rfl) (fun _ _ _ _ h => h) (fun K hK => ?_)
        go_big_quiet_op
        refine hK _ ?_
        clear hK K
        refine pi_c 2 (by assumption) rfl (by kernel_rfl) (by kernel_rfl) (fun _ _ _ _ h => h) (fun K hK => ?_)
        go_big_quiet_op
        refine hK _ ?_
        clear hK K
        refine pi_l 3 rfl (by kernel_rfl) (fun K hK => ?_)
        go_wp2_with fail
        refine Calls.mono (PartsAsk_c s g C B L ls pt hU w.heap.size x.1.1 x.1.2 hlv2 hbd.1 hlt2 _ (hK1.ext (Below.drew (Ext.refl W))) hpc hpl) ?_
        rintro e w3 ⟨rfl, hx3⟩
        go_wp2
        refine hK _ _ (fun _ h => afs_step h hx3) ?_
        clear hK K
        refine pi_l 4 rfl (by kernel_rfl) (fun K hK => ?_)
        go_wp2
        refine hK _ _ (fun _ h => afs_step h (Ext.alloc' _ _)) ?_
        clear hK K
        have hE3 : Ext W w3 := Ext.trans' (Below.drew (Ext.refl W)) hx3
        have hv3 : Boxed w3 (w2.heap.size + 1) 43 _ := hE3.keep HV.out
        have hr3 := own_ext HR.out hE3
        have hs3 := hE3.size
        refine pi_l 5 rfl (by kernel_rfl) (fun K hK => ?_)
        go_wp2_with (at_builtin; refine wpList_app1 w3 (pt x.1.1 x.1.2) _ _ w2.heap.size 2 hr3 43 rfl _ _ rfl info_i64 Tryz.underlying43 rfl rfl ?a1 ?a2 ?_)
        case a1 => have := HLEN.out; rw [List.length_map]; omega
        case a2 => omega
        intro v' w4 hown4 hg4 _
        obtain ⟨q1, q2, q3, q4, q5⟩ := Boxed.appended hv3 (by decide) hr3 (by omega) (by omega) hown4 hg4
        obtain ⟨pv4, nv4, cv4, hv4⟩ : ∃ p n c, v' = .slice p n c := by obtain ⟨p, c, h⟩ := own_sl hown4; exact ⟨p, _, c, h⟩
        subst hv4
        have q1c := q1.cell
        have q1l := q1.lt
        have q1f := q1.frozen
        have Q := Lib.hid (And.intro q2 (And.intro q3 (And.intro q4 q5)))
        have hf4 : Boxed w4 w2.heap.size 275 (.func (.func 187) #[] #[.pointer (some ⟨w.heap.size, 0, none⟩)]) := ((show Boxed w3 w2.heap.size _ _ from hE3.keep HF.out).alloc _).kept hg4 ((show Boxed w3 w2.heap.size _ _ from hE3.keep HF.out).not_row (by decide) hr3)
        have HF4 := Lib.hid hf4
        have hcl : ∃ x : AftS S W, w4 = x.w := ⟨⟨w4, mod_grown (hE3.mod S) hg4 (fun i hi => by rw [HS.out]; exact hi)⟩, rfl⟩
        clear hown4 hg4 q1 q2 q3 q4 q5 hf4
        go_wp2
        refine hK _ _ (fun _ _ => hcl) ?_
        clear hK K
        refine pi_l 6 rfl (by kernel_rfl) (fun K hK => ?_)
        go_wp2
        refine hK _ _ (by simp) ?_
        clear hK K
        refine pi_end (by kernel_rfl) ?_
        obtain ⟨q2, q3, q4, q5⟩ := Q.out
        have hbw : Below w2.heap.size W (w4.setCell ⟨w2.heap.size + 1, 0, none⟩ (.slice pv4 nv4 cv4)) := Below.trans (hE3.mono hsW) q5
        refine ⟨((keepsO_ext hE3).trans q4).from _, hbw, ⟨⟨_, q2, ?_, trivial⟩, HF4.out.other (by omega) _⟩, hB1.trans hbw⟩
        rw [List.map_append, List.length_append, List.length_map]
        exact q3
      case done =>
        rintro D xs W hD hxs ⟨⟨⟨v, hv, hrow, _⟩, hf⟩, hB1⟩ hK
        have hvl := hv.lt
        have hvc := hv.cell
        have hsW := hB1.size
        have HR := Lib.hid hrow
        clear hrow hv hf
        gi_wp2
        refine ⟨by simp, .inl ⟨_, _, rfl, run_takeDeferred hK, ?_⟩⟩
        have hcv : xs.map (fun x => pt x.1.1 x.1.2) = cvV pt B lo hi := by
          unfold cvV
          have hxs' : xs.map (fun x : {p : Nat × Int // p ∈ covL B 0 lo hi} => x.1) = covL B 0 lo hi := hxs
          conv => rhs; rw [← hxs']
          rw [List.map_map]; rfl
        have hr := ownsRow_putObj HR.out (.deferred none) hK rfl
        rw [hcv] at hr
        exact ⟨_, results_tmp2 rfl _ _ _, .inr (.inr ⟨HC.out, v, rfl, own_mono hr hsz2, (hE2.trans' hB1).trans (belowK_b (w := w) (Nat.le_refl _) W D _ _ (by omega) hK rfl rfl)⟩)⟩
      case stop =>
        rintro D c pre W _ _ h _
        exact h.elim
def RangePost (w : World) (B : Nat) (pt : Nat → Int → Int) (lo hi : Int) (e : Ending) (w' : World) : Prop :=
  ((hi < lo ∧ e = .returned (.tuple #[.int .i64 0, .int .i64 1])) ∨ ((lo ≤ hi ∧ 2 ^ B ≤ hi) ∧ e = .returned (.tuple #[.int .i64 0, .int .i64 2])) ∨
  ((lo ≤ hi ∧ hi < 2 ^ B) ∧ I64 (lsum (cvV pt B lo hi)) ∧ e = .returned (.tuple #[.int .i64 (lsum (cvV pt B lo hi)), .int .i64 0])) ∨
  ((lo ≤ hi ∧ hi < 2 ^ B) ∧ ¬ I64 (lsum (cvV pt B lo hi)) ∧ e = .returned (.tuple #[.int .i64 0, .int .i64 4]))) ∧ Ext w w'
set_option maxRecDepth 20000 in
set_option maxHeartbeats 2000000 in
theorem Range_c (s g : Nat) (C : Cfg) (B : Nat) (L : Nat → Lev) (ls : Nat → List Int) (w : World) (h : KAt w s g C B L ls) (pt : Nat → Int → Int) (hU : Uniq C B ls pt) (hI : ∀ n i, I64 (pt n i)) (lo hi : Int) (hlo : U64 lo) (hhi : U64 hi) :
    Calls Tryz.prog 80 #[.pointer (some ⟨s, 0, none⟩), .int .u64 lo, .int .u64 hi] w (RangePost w B pt lo hi) := by
  have hlen : (cvV pt B lo hi).length ≤ 1152921504606846976 := by
    unfold cvV
    rw [List.length_map]
    have := cov_len B 0 lo hi
    have h2 := h.ok.b2
    have h3 := h.hB
    omega
  have hall : ∀ x ∈ cvV pt B lo hi, I64 x := by
    intro x hx
    unfold cvV at hx
    simp only [List.mem_map] at hx
    obtain ⟨p, _, rfl⟩ := hx
    exact hI _ _
  have HH := Lib.hid h
  have HL := Lib.hid hlen
  have HA := Lib.hid hall
  clear h hlen hall
  go_enter Tryz.func80, Tryz.ntmps80
  go_wp2_with fail
  refine Calls.mono (Parts_c s g C B L ls _ HH.out pt hU lo hi hlo hhi) ?_
  rintro e w1 (⟨hc, rfl, hx⟩ | ⟨hc, rfl, hx⟩ | ⟨hc, v, rfl, ho, hx⟩)
  · go_wp2_with fail
    go_ret2
    exact ⟨.inl ⟨hc, rfl⟩, hx⟩
  · go_wp2_with fail
    go_ret2
    exact ⟨.inr (.inl ⟨hc, rfl⟩), hx⟩
  · have HC := Lib.hid hc
    clear hc
    go_wp2_with fail
    refine Calls.mono (Sum_c _ v w1 HA.out HL.out (IntsAt.of_row ho)) ?_
    rintro e w2 ⟨rfl, hx2⟩
    by_cases hT : I64 (lsum (cvV pt B lo hi))
    · rw [fitB_yes hT, fitN_yes hT]
      go_wp2_with fail
      go_ret2
      exact ⟨.inr (.inr (.inl ⟨HC.out, hT, rfl⟩)), hx.trans' hx2⟩
    · rw [fitB_no hT]
      go_wp2_with fail
      go_ret2
      exact ⟨.inr (.inr (.inr ⟨HC.out, hT, rfl⟩)), hx.trans' hx2⟩
end Go.Proofs.YtfhdjekpdifajaaGreat
namespace Go.Proofs.YtfhdjekpdifajaaGreat
set_option linter.unusedVariables false
open Go.RowKit
structure Own4 (N : Nat) (w : World) (F1 F2 F3 F4 : Nat → Prop) (P1 P2 P3 P4 : World → Prop) : Prop where
  o1 : Own F1 P1 w
  o2 : Own F2 P2 w
  o3 : Own F3 P3 w
  o4 : Own F4 P4 w
  d12 : Dj F1 F2
  d13 : Dj F1 F3
  d14 : Dj F1 F4
  d23 : Dj F2 F3
  d24 : Dj F2 F4
  d34 : Dj F3 F4
  n1 : ∀ k, F1 k → N ≤ k
  n2 : ∀ k, F2 k → N ≤ k
  n3 : ∀ k, F3 k → N ≤ k
  n4 : ∀ k, F4 k → N ≤ k
  nw : N ≤ w.heap.size
section
variable {N : Nat} {w w' : World} {F1 F2 F3 F4 : Nat → Prop} {P1 P2 P3 P4 : World → Prop}
theorem Own4.ext (h : Own4 N w F1 F2 F3 F4 P1 P2 P3 P4) (he : Ext w w') : Own4 N w' F1 F2 F3 F4 P1 P2 P3 P4 :=
  ⟨h.o1.ext he, h.o2.ext he, h.o3.ext he, h.o4.ext he, h.d12, h.d13, h.d14, h.d23, h.d24, h.d34, h.n1, h.n2, h.n3, h.n4, Nat.le_trans h.nw he.size⟩
/-- The first is changed, or put anew. -/
theorem Own4.step {F1' S : Nat → Prop} {P1' : World → Prop} (h : Own4 N w F1 F2 F3 F4 P1 P2 P3 P4) (hm : Mod S w w') (hS : ∀ k, S k → F1 k) (h1 : Own F1' P1' w') (hF : ∀ k, F1' k → F1 k ∨ w.heap.size ≤ k) : Own4 N w' F1' F2 F3 F4 P1' P2 P3 P4 := by
  refine ⟨h1, h.o2.mod hm (fun k hk hs => h.d12 k (hS k hs) hk), h.o3.mod hm (fun k hk hs => h.d13 k (hS k hs) hk), h.o4.mod hm (fun k hk hs => h.d14 k (hS k hs) hk), ?_, ?_, ?_, h.d23, h.d24, h.d34, fun k hk => ?_, h.n2, h.n3, h.n4, Nat.le_trans h.nw hm.size⟩
  · exact (h.o2.grow h.d12.symm hF).symm
  · exact (h.o3.grow h.d13.symm hF).symm
  · exact (h.o4.grow h.d14.symm hF).symm
  · rcases hF k hk with h2 | h2
    · exact h.n1 k h2
    · exact Nat.le_trans h.nw h2
theorem Own4.low {S : Nat → Prop} (h : Own4 N w F1 F2 F3 F4 P1 P2 P3 P4) (hm : Mod S w w') (hS : ∀ k, S k → F1 k) : Below N w w' := hm.below h.nw (fun k hk => h.n1 k (hS k hk))
end
end Go.Proofs.YtfhdjekpdifajaaGreat
namespace Go.Proofs.YtfhdjekpdifajaaGreat
set_option linter.unusedVariables false
open Go.RowKit
/-- A stack, and one of the references. -/
def KP (N : Nat) (w : World) (C : Cfg) (B s r : Nat) (ls ls' : Nat → List Int) : Prop :=
  ∃ g L t L2 z, KAt w s g C B L ls ∧ KLow z s g B L ∧ KFresh N B L ∧ RKAt w r t C B L2 ls' ∧ (∀ k, rkF r t C B L2 k → z ≤ k) ∧ N ≤ z ∧ z ≤ w.heap.size
def rangR (B : Nat) (pt : Nat → Int → Int) (lo hi : Int) : Int × Int := if hi < lo then (0, 1) else if 2 ^ B ≤ hi then (0, 2) else (fitN (lsum (cvV pt B lo hi)), bif fitB (lsum (cvV pt B lo hi)) then 0 else 4)
theorem rang_of {w w' : World} {B : Nat} {pt : Nat → Int → Int} {lo hi : Int} {e : Ending} (h : RangePost w B pt lo hi e w') : e = .returned (.tuple #[.int .i64 (rangR B pt lo hi).1, .int .i64 (rangR B pt lo hi).2]) ∧ Ext w w' := by
  obtain ⟨h, hE⟩ := h
  refine ⟨?_, hE⟩
  unfold rangR
  rcases h with ⟨h1, rfl⟩ | ⟨⟨h1, h2⟩, rfl⟩ | ⟨⟨h1, h2⟩, h3, rfl⟩ | ⟨⟨h1, h2⟩, h3, rfl⟩
  · rw [if_pos h1]
  · rw [if_neg (by omega), if_pos h2]
  · rw [if_neg (by omega), if_neg (by omega), fitB_yes h3, fitN_yes h3]; rfl
  · rw [if_neg (by omega), if_neg (by omega), fitB_no h3, fitN, fitB_no h3]; rfl
section
variable {N : Nat} {w w' : World} {C : Cfg} {B s r : Nat} {ls ls' : Nat → List Int}
theorem KP.ext (h : KP N w C B s r ls ls') (he : Ext w w') : KP N w' C B s r ls ls' := by
  obtain ⟨g, L, t, L2, z, h1, h2, h3, h4, h5, h6, h7⟩ := h
  exact ⟨g, L, t, L2, z, h1.ext he, h2, h3, h4.ext he, h5, h6, Nat.le_trans h7 he.size⟩
end
end Go.Proofs.YtfhdjekpdifajaaGreat
namespace Go.Proofs.YtfhdjekpdifajaaGreat
set_option linter.unusedVariables false
open Go.RowKit
/-- The way down, if every rest fits. -/
def wayF (pt : Nat → Int → Int) : Nat → Int → Int → Option (List (Nat × Int))
  | 0, _, _ => some []
  | n + 1, i, k => if k ≤ pt n (2 * i) then (wayF pt n (2 * i) k).map (fun l => (n, 2 * i) :: l) else if fitB (k - pt n (2 * i)) = true then (wayF pt n (2 * i + 1) (k - pt n (2 * i))).map (fun l => (n, 2 * i + 1) :: l) else none
def wayFP (pt : Nat → Int → Int) (B : Nat) (k : Int) : Option (List (Nat × Int)) := (wayF pt B 0 k).map (fun l => (B, 0) :: l)
theorem wayF_len (pt : Nat → Int → Int) : ∀ (n : Nat) (i k : Int) (l : List (Nat × Int)), wayF pt n i k = some l → l.length = n
  | 0, _, _, l, h => by cases h; rfl
  | n + 1, i, k, l, h => by
    unfold wayF at h
    split at h
    · obtain ⟨m, hm, rfl⟩ := Option.map_eq_some_iff.1 h
      rw [List.length_cons, wayF_len pt n _ _ m hm]
    · split at h
      · obtain ⟨m, hm, rfl⟩ := Option.map_eq_some_iff.1 h
        rw [List.length_cons, wayF_len pt n _ _ m hm]
      · cases h
theorem wayFP_len {pt : Nat → Int → Int} {B : Nat} {k : Int} {l : List (Nat × Int)} (h : wayFP pt B k = some l) : l.length = B + 1 := by
  obtain ⟨m, hm, rfl⟩ := Option.map_eq_some_iff.1 h
  rw [List.length_cons, wayF_len pt B _ _ m hm]
/-- How far the way has come. -/
def WayAtR (w : World) (B : Nat) (C : Cfg) (b : Nat) (pt : Nat → Int → Int) (k : Int) (t : Nat) (k' : Int) (wr : World) (n : Nat) (i : Int) (dn : List (Nat × Int)) : Prop :=
  t + n = B ∧ dn.length = t + 1 ∧ dn.getD t (0, 0) = (n, i) ∧ wayFP pt B k = (wayF pt n i k').map (fun l => dn ++ l) ∧ 0 ≤ i ∧ i < keys C n ∧ 1 ≤ k' ∧ I64 k' ∧
  (∃ cur, wr.heap[b]? = some (.cells cur 232 (0, 0)) ∧ cur.size = 120) ∧ PCells wr b 0 dn ∧ Ext w wr
theorem way_nextR {w wr w6 : World} {B : Nat} {C : Cfg} {b : Nat} {pt : Nat → Int → Int} {k : Int} {t : Nat} {k' : Int} {m : Nat} {i : Int} {dn : List (Nat × Int)} (hW : WayAtR w B C b pt k t k' wr (m + 1) i dn) (hE : Ext wr w6) (hB : C.bits = B) (hBd : B ≤ 59) (hbw : w.heap.size ≤ b) {j k2 : Int}
    (hj : (j = 2 * i ∧ k' ≤ pt m (2 * i) ∧ k2 = k') ∨ (j = 2 * i + 1 ∧ pt m (2 * i) < k' ∧ I64 (k' - pt m (2 * i)) ∧ k2 = k' - pt m (2 * i))) :
    WayAtR w B C b pt k (t + 1) k2 ((w6.setCell ⟨b, (t + 1) * 2, none⟩ (.int .i64 m)).setCell ⟨b, (t + 1) * 2 + 1, none⟩ (.int .u64 j)) m j (dn ++ [(m, j)]) := by
  obtain ⟨a1, a2, a3, a4, a5, a6, a7, a8, ⟨cur, a9, a10⟩, a11, a12⟩ := hW
  have hkh := keys_half (C := C) (m := m) (by omega)
  have hs := way_set (hE.keep a9) a10 (a11.ext (lt_of a9) hE) (by omega) m j
  rw [a2] at hs
  refine ⟨by omega, by rw [List.length_append, a2]; rfl, ?_, ?_, ?_, ?_, ?_, ?_, hs.1, hs.2, ((a12.trans' hE).setR (p := ⟨b, (t + 1) * 2, none⟩) hbw _).setR (p := ⟨b, (t + 1) * 2 + 1, none⟩) hbw _⟩
  · rw [← a2]; simp
  · rw [a4]
    conv => lhs; unfold wayF
    rcases hj with ⟨rfl, h1, rfl⟩ | ⟨rfl, h1, h2, rfl⟩
    · rw [if_pos h1, Option.map_map]
      congr 1
      funext l
      simp
    · rw [if_neg (by omega), if_pos (fitB_yes h2), Option.map_map]
      congr 1
      funext l
      simp
  · rcases hj with ⟨rfl, _, _⟩ | ⟨rfl, _, _⟩ <;> omega
  · rcases hj with ⟨rfl, _, _⟩ | ⟨rfl, _, _⟩ <;> omega
  · rcases hj with ⟨_, h1, rfl⟩ | ⟨_, h1, _, rfl⟩ <;> omega
  · rcases hj with ⟨_, h1, rfl⟩ | ⟨_, h1, h2, rfl⟩
    · exact a8
    · exact h2
def WayRPost (w : World) (B : Nat) (T : Int) (pt : Nat → Int → Int) (k : Int) (e : Ending) (w' : World) : Prop :=
  ((k < 1 ∨ T < k) ∧ e = .returned (.tuple #[.slice none 0 0, .int .i64 6]) ∧ Ext w w') ∨
  ((1 ≤ k ∧ k ≤ T) ∧ wayFP pt B k = none ∧ e = .returned (.tuple #[.slice none 0 0, .int .i64 4]) ∧ Ext w w') ∨
  ((1 ≤ k ∧ k ≤ T) ∧ ∃ ps v base, wayFP pt B k = some ps ∧ e = .returned (.tuple #[v, .int .i64 0]) ∧ w.heap.size ≤ base ∧ w'.ownsRow base 39 2 v ps.length (pcV ps) ∧ Ext w w')
set_option maxRecDepth 20000 in
set_option maxHeartbeats 8000000 in
theorem WayR_c (s g : Nat) (C : Cfg) (B : Nat) (L : Nat → Lev) (ls : Nat → List Int) (w : World) (h : KAt w s g C B L ls) (k : Int) (hk : I64 k) (pt : Nat → Int → Int) (hT : Uniq C B ls pt) (hPI : ∀ n i, I64 (pt n i)) :
    Calls Tryz.prog 91 #[.pointer (some ⟨s, 0, none⟩), .int .i64 k] w (WayRPost w B ((ls B).getD 0 0) pt k) := by
  have hok := h.ok
  have hB := h.hB
  have hBd : B ≤ 59 := by have := hok.b2; omega
  by_cases hk1 : k < 1
  · go_enter Tryz.func91, Tryz.ntmps91
    go_wp2
    go_step3
    go_wp2
    go_ret2
    exact .inl ⟨.inl hk1, rfl, Ext.refl _⟩
  have hTot := fun W' (he : Ext w W') => KTotal_c s g C B L ls W' (h.ext he)
  generalize hTT : (ls B).getD 0 0 = T at *
  by_cases hk2 : T < k
  · go_enter Tryz.func91, Tryz.ntmps91
    go_wp2
    go_step3
    go_wp2_with fail
    refine (hTot _ (by (repeat' (first | exact Ext.refl _ | assumption | apply Ext.allocR | apply Ext.drewR | apply Ext.drewNR | (refine Ext.trans' ?_ (by assumption)))))).mono ?_
    rintro e w1 ⟨rfl, hx1⟩
    go_wp2
    go_ret2
    exact .inl ⟨.inr hk2, rfl, by (repeat' (first | exact Ext.refl _ | assumption | apply Ext.allocR | apply Ext.drewR | apply Ext.drewNR | (refine Ext.trans' ?_ (by assumption))))⟩
  have HB := Lib.hid hB
  have HTT := Lib.hid hTT
  clear hB hTT
  go_enter Tryz.func91, Tryz.ntmps91
  go_wp2
  go_step3
  go_wp2_with fail
  refine (hTot _ (by (repeat' (first | exact Ext.refl _ | assumption | apply Ext.allocR | apply Ext.drewR | apply Ext.drewNR | (refine Ext.trans' ?_ (by assumption)))))).mono ?_
  rintro e w1 ⟨rfl, hx1⟩
  have hE1 : Ext w w1 := by (repeat' (first | exact Ext.refl _ | assumption | apply Ext.allocR | apply Ext.drewR | apply Ext.drewNR | (refine Ext.trans' ?_ (by assumption))))
  clear hx1 hTot
  go_wp2_with fail
  refine (SKConfig_c s g C B L ls _ (h.ext ?hx)).mono ?_
  case hx => exact hE1.trans' (by (repeat' (first | exact Ext.refl _ | assumption | apply Ext.allocR | apply Ext.drewR | apply Ext.drewNR | (refine Ext.trans' ?_ (by assumption)))))
  rintro e w2 ⟨rfl, hx2⟩
  have hE2 : Ext w w2 := hE1.trans' (by (repeat' (first | exact Ext.refl _ | assumption | apply Ext.allocR | apply Ext.drewR | apply Ext.drewNR | (refine Ext.trans' ?_ (by assumption)))))
  clear hx2 hE1
  go_upto_region 5 with (fail)
  obtain ⟨w3, hw3⟩ : ∃ w3, w2.alloc (.cells Tryz.zeroCells232 232) = w3 := ⟨_, rfl⟩
  have hx3 : Ext w2 w3 := by rw [← hw3]; exact Ext.alloc' _ _
  have hb3 : w3.heap[w2.heap.size]? = some (.cells Tryz.zeroCells232 232 (0, 0)) := by rw [← hw3]; exact heap_at _ _ rfl
  rw [hw3]
  clear hw3
  have hE3 := hE2.trans' hx3
  have hzs : Tryz.zeroCells232.size = 120 := by kernel_rfl
  have hz0 : Tryz.zeroCells232[0]? = some (.int .i64 0) := by kernel_rfl
  have hz1 : Tryz.zeroCells232[1]? = some (.int .u64 0) := by kernel_rfl
  generalize Tryz.zeroCells232 = zc at *
  have z0 := (cell_of hb3 0).trans hz0
  have z1 := (cell_of hb3 1).trans hz1
  have f0 := frozen_of hb3 0
  have f1 := frozen_of hb3 1
  have zl := lt_of hb3
  have hbE := hE2.size
  generalize hbb : w2.heap.size = b at *
  have hw0 := way_set hb3 hzs (dn := []) (fun k hk => by simp at hk) (by simp) B 0
  simp only [List.length_nil, Nat.zero_mul, Nat.zero_add, List.nil_append] at hw0
  have hW0 : WayAtR w B C b pt k 0 k ((w3.setCell ⟨b, 0, none⟩ (.int .i64 (B : Nat))).setCell ⟨b, 1, none⟩ (.int .u64 0)) B 0 [(B, 0)] :=
    ⟨by omega, rfl, rfl, rfl, Int.le_refl 0, by have := keys_bd C hok B (Int.natCast_nonneg B); omega, by omega, hk, hw0.1, hw0.2, (hE3.setR (p := ⟨b, 0, none⟩) hbE _).setR (p := ⟨b, 1, none⟩) hbE _⟩
  rw [← HB.out] at hW0
  have HW0 := Lib.hid hW0
  clear hz0 hz1 hw0 hW0
  go_wp2
  go_step3
  go_wp2
  have HT := Lib.hid hT
  have HPI := Lib.hid hPI
  clear hT hPI
  go_loopw [1, 8] (fun u1 u8 wr => ∃ (t : Nat) (k' : Int) (n : Nat) (i : Int) (dn : List (Nat × Int)), u1 = .int .i64 k' ∧ u8 = .int .i64 t ∧ WayAtR w B C b pt k t k' wr n i dn) (fun _ u8 _ => B - (intOf u8).toNat)
  case atStart => exact ⟨0, k, B, 0, [(B, 0)], rfl, rfl, HW0.out⟩
  case round =>
    clear HW0
    obtain ⟨t, k', n, i, dn, rfl, rfl, hW⟩ := hrel
    obtain ⟨w1', w2', w3', w4', w5', w6', w7', w8', w9', w10', w11'⟩ := hW
    obtain ⟨cur, hcb, hcs⟩ := w9'
    have hp := w10' t (by omega)
    rw [w3', Nat.zero_add] at hp
    obtain ⟨q0, q1⟩ := hp
    have ql := lt_of hcb
    cases n with
    | zero =>
      have hdl : wayFP pt B k = some dn := by rw [w4']; simp [wayF]
      have hcl := fun W' (he : Ext wr W') => CloneP_c b (60 - 0) dn W' (w10'.ext ql he) (Nat.lt_of_lt_of_le ql he.size) (by omega)
      rw [w2'] at hcl
      have HDL := Lib.hid hdl
      have HCL := Lib.hid hcl
      have hsl := fun W' => run_slice60 b t (by omega) W'
      clear hdl hcl
      go_wp2_with fail
      refine (HCL.out _ (Ext.refl _)).mono ?_
      rintro e w5 ⟨v5, rfl, ho5, hx5⟩
      clear hsl
      go_wp2
      go_ret2
      exact .inr (.inr ⟨⟨by omega, by omega⟩, dn, v5, wr.heap.size, HDL.out, rfl, w11'.size, by rw [w2']; exact ho5, w11'.trans' hx5⟩)
    | succ m =>
      have hnn : ((m + 1 : Nat) : Int) = (m : Int) + 1 := by omega
      have hmb : ((m + 1 : Nat) : Int) ≤ C.bits := by have := HB.out; omega
      have hHV : ∀ W', Calls Tryz.prog 145 #[.int .i64 C.bits, .agg #[.int .i64 ((m : Int) + 1), .int .u64 i]] W' fun e w' => e = .returned (.tuple #[.agg #[.int .i64 m, .int .u64 (2 * i)], .agg #[.int .i64 m, .int .u64 (2 * i + 1)], .bool true]) ∧ Ext W' w' := fun W' => by
        have := Halves_c C hok m hmb i w5' w6' W'
        rw [hnn] at this
        exact this
      go_wp2_with fail
      refine (hHV _).mono ?_
      rintro e w4 ⟨rfl, hx4⟩
      clear hHV
      go_upto_region 9 with (fail)
      have hr4 : Ext wr w4 := by (repeat' (first | exact Ext.refl _ | assumption | apply Ext.allocR | apply Ext.drewR | apply Ext.drewNR | (refine Ext.trans' ?_ (by assumption))))
      have hkh := keys_half (C := C) (m := m) hmb
      have hl5 := (heap_old (w4.alloc (.cells #[.int .i64 m, .int .u64 (2 * i)] 39)) (.cells #[.int .i64 m, .int .u64 (2 * i + 1)] 39) (n := w4.heap.size) (by rw [size_alloc]; omega)).trans (heap_at w4 (.cells #[.int .i64 m, .int .u64 (2 * i)] 39) rfl)
      have hr5 := heap_at (w4.alloc (.cells #[.int .i64 m, .int .u64 (2 * i)] 39)) (.cells #[.int .i64 m, .int .u64 (2 * i + 1)] 39) (n := w4.heap.size + 1) (by rw [size_alloc])
      have hx5 : Ext w4 ((w4.alloc (.cells #[.int .i64 m, .int .u64 (2 * i)] 39)).alloc (.cells #[.int .i64 m, .int .u64 (2 * i + 1)] 39)) := (Ext.alloc' _ _).allocR _
      generalize (w4.alloc (.cells #[.int .i64 m, .int .u64 (2 * i)] 39)).alloc (.cells #[.int .i64 m, .int .u64 (2 * i + 1)] 39) = w5 at *
      have hE5 : Ext wr w5 := hr4.trans' hx5
      have v0 := (cell_of hl5 0).trans rfl
      have v1 := (cell_of hl5 1).trans rfl
      have vl := lt_of hl5
      clear hx4 hx5 hr4 q0 q1 ql
      have hK5 := h.ext (w11'.trans' hE5)
      have ht59 : t < 59 := by omega
      go_wp2_with fail
      refine Calls.mono (KPoint_c s g C B L ls _ hK5 m (by omega) (2 * i) (by omega) (by omega)) ?_
      rintro e w6 ⟨x, rfl, hpt, hx6⟩
      have hxp := HT.out m (2 * i) x (by omega) (by omega) (by omega) hpt
      have hpi := HPI.out m (2 * i)
      have hw4 := w4'
      have hE6 := hE5.trans' hx6
      have hl6 := hx6.keep hl5
      have hr6 := hx6.keep hr5
      have hc6 := hE6.keep hcb
      have hW : WayAtR w B C b pt k t k' wr (m + 1) i dn := ⟨w1', w2', w3', w4', w5', w6', w7', w8', ⟨cur, hcb, hcs⟩, w10', w11'⟩
      subst hxp
      have hn1 := fun (W' : World) (hE' : Ext wr W') (j k2 : Int) hj => way_nextR (j := j) (k2 := k2) hW hE' HB.out hBd hbE hj
      have HN1 := Lib.hid hn1
      obtain ⟨o0, ho0⟩ : ∃ o0, cur[(t + 1) * 2]? = some o0 := ⟨_, Array.getElem?_eq_getElem (by omega)⟩
      obtain ⟨o1, ho1⟩ : ∃ o1, cur[(t + 1) * 2 + 1]? = some o1 := ⟨_, Array.getElem?_eq_getElem (by omega)⟩
      have u0 := (cell_of hc6 ((t + 1) * 2)).trans ho0
      have u1 := (cell_of hc6 ((t + 1) * 2 + 1)).trans ho1
      have g0 := frozen_of hc6 ((t + 1) * 2)
      have g1 := frozen_of hc6 ((t + 1) * 2 + 1)
      have gl := lt_of hc6
      have v0 := (cell_of hl6 0).trans rfl
      have v1 := (cell_of hl6 1).trans rfl
      have vl := lt_of hl6
      have y0 := (cell_of hr6 0).trans rfl
      have y1 := (cell_of hr6 1).trans rfl
      have yl := lt_of hr6
      have HW4 := Lib.hid hw4
      clear hw4 w4' hn1 hW hpt hK5 hl5 hr5 w10' hcb hx6
      generalize hP : pt m (2 * i) = P at *
      by_cases hle : k' ≤ P
      · go_wp2_with fail
        go_roundw
        case rel => exact ⟨t + 1, k', m, 2 * i, dn ++ [(m, 2 * i)], rfl, by go_num, HN1.out _ hE6 _ _ (.inl ⟨rfl, hle, rfl⟩)⟩
        case measure => simp [intOf]; omega
      · have hkI : I64 k' := w8'
        have hM := Minus_c k' P hkI hpi
        by_cases hI : I64 (k' - P)
        rotate_left
        · rw [fitB_no hI] at hM
          have hno : wayFP pt B k = none := by
            rw [HW4.out]
            conv => lhs; unfold wayF
            rw [if_neg (by omega), if_neg (by rw [hP, fitB_no hI]; decide)]
            rfl
          have HNO := Lib.hid hno
          have HM := Lib.hid hM
          clear hM hno hI
          go_wp2_with fail
          refine (HM.out _).mono ?_
          rintro e w7 ⟨rfl, hx7⟩
          have hE7 : Ext w6 w7 := by (repeat' (first | exact Ext.refl _ | assumption | apply Ext.allocR | apply Ext.drewR | apply Ext.drewNR | (refine Ext.trans' ?_ (by assumption))))
          go_wp2
          go_ret2
          exact .inr (.inl ⟨⟨by omega, by omega⟩, HNO.out, rfl, w11'.trans' (hE6.trans' hE7)⟩)
        rw [fitB_yes hI, fitN_yes hI] at hM
        have HII := Lib.hid hI
        clear hI
        have HM := Lib.hid hM
        clear hM
        go_wp2_with fail
        refine (HM.out _).mono ?_
        rintro e w7 ⟨rfl, hx7⟩
        have hE7 : Ext w6 w7 := by (repeat' (first | exact Ext.refl _ | assumption | apply Ext.allocR | apply Ext.drewR | apply Ext.drewNR | (refine Ext.trans' ?_ (by assumption))))
        have hc7 := hE7.keep hc6
        have hr7 := hE7.keep hr6
        clear hx7 u0 u1 g0 g1 gl v0 v1 vl y0 y1 yl
        have u0 := (cell_of hc7 ((t + 1) * 2)).trans ho0
        have u1 := (cell_of hc7 ((t + 1) * 2 + 1)).trans ho1
        have g0 := frozen_of hc7 ((t + 1) * 2)
        have g1 := frozen_of hc7 ((t + 1) * 2 + 1)
        have gl := lt_of hc7
        have y0 := (cell_of hr7 0).trans rfl
        have y1 := (cell_of hr7 1).trans rfl
        have yl := lt_of hr7
        go_wp2_with fail
        go_roundw
        case rel => exact ⟨t + 1, k' - P, m, 2 * i + 1, dn ++ [(m, 2 * i + 1)], rfl, by go_num, HN1.out _ (hE6.trans' hE7) _ _ (.inr ⟨rfl, by omega, HII.out, rfl⟩)⟩
        case measure => simp [intOf]; omega
end Go.Proofs.YtfhdjekpdifajaaGreat
namespace Go.Proofs.YtfhdjekpdifajaaGreat
set_option linter.unusedVariables false
open Go.RowKit
def quanR (pt : Nat → Int → Int) (B : Nat) (T k : Int) : Int × Int := if k < 1 ∨ T < k then (0, 6) else match wayFP pt B k with | none => (0, 4) | some ps => ((ps.getD B (0, 0)).2, 0)
set_option maxRecDepth 20000 in
set_option maxHeartbeats 4000000 in
theorem Quan_of (s : Nat) (B : Nat) (hBd : B ≤ 59) (pt : Nat → Int → Int) (T k : Int) (w : World) (h : ∀ W', Ext w W' → Calls Tryz.prog 91 #[.pointer (some ⟨s, 0, none⟩), .int .i64 k] W' (WayRPost W' B T pt k)) :
    Calls Tryz.prog 33 #[.pointer (some ⟨s, 0, none⟩), .int .i64 k] w fun e w' => e = .returned (.tuple #[.int .u64 (quanR pt B T k).1, .int .i64 (quanR pt B T k).2]) ∧ Ext w w' := by
  have HW := Lib.hid h
  clear h
  go_enter Tryz.func33, Tryz.ntmps33
  go_wp2_with fail
  refine (HW.out _ (by (repeat' (first | exact Ext.refl _ | assumption | apply Ext.allocR | apply Ext.drewR | apply Ext.drewNR | (refine Ext.trans' ?_ (by assumption)))))).mono ?_
  rintro e w1 (⟨hr, rfl, hx⟩ | ⟨hr, hn, rfl, hx⟩ | ⟨hr, ps, v, base, hsm, rfl, hbs, ho, hx⟩)
  · have HQ : Hid (quanR pt B T k = (0, 6)) := Lib.hid (by unfold quanR; rw [if_pos hr])
    clear hr
    go_wp2
    go_ret2
    exact ⟨by rw [HQ.out]; rfl, by (repeat' (first | exact Ext.refl _ | assumption | apply Ext.allocR | apply Ext.drewR | apply Ext.drewNR | (refine Ext.trans' ?_ (by assumption))))⟩
  · have HQ : Hid (quanR pt B T k = (0, 4)) := Lib.hid (by unfold quanR; rw [if_neg (by omega), hn])
    clear hr hn
    go_wp2
    go_ret2
    exact ⟨by rw [HQ.out]; rfl, by (repeat' (first | exact Ext.refl _ | assumption | apply Ext.allocR | apply Ext.drewR | apply Ext.drewNR | (refine Ext.trans' ?_ (by assumption))))⟩
  · have hlen := wayFP_len hsm
    have HQ : Hid (quanR pt B T k = ((ps.getD B (0, 0)).2, 0)) := Lib.hid (by unfold quanR; rw [if_neg (by omega), hsm])
    obtain ⟨g', cap, rfl, hgl, hpc⟩ := own_pieces ho (by omega)
    obtain ⟨_, q1⟩ := hpc B (by omega)
    rw [Nat.zero_add] at q1
    have hE : Ext w w1 := by (repeat' (first | exact Ext.refl _ | assumption | apply Ext.allocR | apply Ext.drewR | apply Ext.drewNR | (refine Ext.trans' ?_ (by assumption))))
    clear ho hpc hx hr hsm
    rw [hlen]
    clear hlen
    go_wp2
    go_ret2
    exact ⟨by rw [HQ.out]; rfl, hE⟩
end Go.Proofs.YtfhdjekpdifajaaGreat
namespace Go.Proofs.YtfhdjekpdifajaaGreat
set_option linter.unusedVariables false
open Go.RowKit
/-- The pairs that a stack is told. -/
def psU (C : Cfg) (us : List (Int × Int)) : List (Int × Int) := stP C 0 (fus us 0 60)
open Classical in
/-- What a piece is told. -/
noncomputable def ptK (C : Cfg) (B : Nat) (us : List (Int × Int)) (n : Nat) (i : Int) : Int :=
  if h : n ≤ B ∧ 0 ≤ i ∧ i < keys C n ∧ ∃ x, lvPt C n (feedK C (fus us 0 60) n) i x then Classical.choose h.2.2.2 else pcS (psU C us) n i
theorem kth_mem {l : List Int} {k : Nat} {x : Int} (h : IsKth l k x) : x ∈ l := by
  obtain ⟨h1, h2⟩ := h
  have : 0 < sameN x l := by omega
  unfold sameN at this
  obtain ⟨y, hy⟩ := List.exists_mem_of_length_pos this
  simp only [List.mem_filter] at hy
  obtain ⟨hy1, hy2⟩ := hy
  have : y = x := by simpa using hy2
  rw [← this]; exact hy1
theorem fed_bnd (C : Cfg) (us : List (Int × Int)) (n : Nat) : Bnd 65970697666560 (feedK C (fus us 0 60) n) := by
  intro x hx
  have := feedK_bnd C (fus us 0 60) n x hx
  have hl := fus_len us 0 60
  omega
theorem lvPt_bnd {C : Cfg} {us : List (Int × Int)} {n : Nat} {i x : Int} (h : lvPt C n (feedK C (fus us 0 60) n) i x) : -65970697666560 ≤ x ∧ x ≤ 65970697666560 := by
  have hb := fed_bnd C us n
  rcases h with ⟨_, rfl⟩ | ⟨_, h⟩
  · exact hb.getD (by decide) _
  · have hm := kth_mem h
    unfold readL at hm
    simp only [List.mem_map, List.mem_range] at hm
    obtain ⟨r, _, rfl⟩ := hm
    exact hb.getD (by decide) _
theorem psU_bnd (C : Cfg) (us : List (Int × Int)) (p : Int → Bool) : -65970697666560 ≤ sumIf p (psU C us) ∧ sumIf p (psU C us) ≤ 65970697666560 := by
  have := sumIf_bnd p 1099511627776 (by decide) (psU C us) (stP_bnd C 0 _)
  have hl := fus_len us 0 60
  have hs : (psU C us).length = (fus us 0 60).length := stP_len C 0 _
  omega
theorem ptK_of {C : Cfg} {B : Nat} {us : List (Int × Int)} {n : Nat} {i x : Int} (hn : n ≤ B) (h0 : 0 ≤ i) (h1 : i < keys C n) (h : lvPt C n (feedK C (fus us 0 60) n) i x) : x = ptK C B us n i := by
  have hx : n ≤ B ∧ 0 ≤ i ∧ i < keys C n ∧ ∃ x, lvPt C n (feedK C (fus us 0 60) n) i x := ⟨hn, h0, h1, x, h⟩
  unfold ptK
  rw [dif_pos hx]
  exact lvPt_unique h (Classical.choose_spec hx.2.2.2)
theorem ptK_bnd (C : Cfg) (B : Nat) (us : List (Int × Int)) (n : Nat) (i : Int) : -65970697666560 ≤ ptK C B us n i ∧ ptK C B us n i ≤ 65970697666560 := by
  unfold ptK
  split
  · rename_i h
    exact lvPt_bnd (Classical.choose_spec h.2.2.2)
  · exact psU_bnd C us _
theorem hasK_pc (C : Cfg) (us : List (Int × Int)) (n : Nat) (j : Int) : hasK C us 60 n j = pcS (psU C us) n j := by
  unfold hasK hasP pcS psU
  exact sumIf_stP C n _ _
/-- Of an exact level. -/
theorem ptK_x {C : Cfg} (hok : C.Ok) {B : Nat} (hB : C.bits = B) {us : List (Int × Int)} (hus : UpsOk us) {n : Nat} (hn : n ≤ B) {i : Int} (h0 : 0 ≤ i) (h1 : i < keys C n) (hx : isX C n = true) : ptK C B us n i = pcS (psU C us) n i := by
  have h : lvPt C n (feedK C (fus us 0 60) n) i ((feedK C (fus us 0 60) n).getD i.toNat 0) := .inl ⟨hx, rfl⟩
  rw [← ptK_of hn h0 h1 h, ← hasK_pc]
  exact pt_x hok (by omega) hus hx h0 h
end Go.Proofs.YtfhdjekpdifajaaGreat
namespace Go.Proofs.YtfhdjekpdifajaaGreat
set_option linter.unusedVariables false
open Go.RowKit
/-- A way, or none. -/
def PAt (w : World) (v : Value) (ps : List (Nat × Int)) : Prop := (v = .slice none 0 0 ∧ ps = []) ∨ (0 < ps.length ∧ ps.length ≤ 60 ∧ ∃ g c, v = .slice (some ⟨g, 0, none⟩) ps.length c ∧ g < w.heap.size ∧ PCells w g 0 ps)
theorem PAt.ext {w w' : World} {v : Value} {ps : List (Nat × Int)} (h : PAt w v ps) (he : Ext w w') : PAt w' v ps :=
  h.imp id (fun ⟨h0, h1, g, c, hv, hg, hp⟩ => ⟨h0, h1, g, c, hv, Nat.lt_of_lt_of_le hg he.size, hp.ext hg he⟩)
section
variable {N : Nat} {w w' : World} {C : Cfg} {B s r : Nat} {ls : Nat → List Int}
end
end Go.Proofs.YtfhdjekpdifajaaGreat
namespace Go.Proofs.YtfhdjekpdifajaaGreat
set_option linter.unusedVariables false
open Go.RowKit
abbrev Opn := Int × Int × Int
def OpsAt (w : World) (v : Value) (os : List Opn) : Prop :=
  ((∃ p, v = .slice p 0 0) ∧ os = []) ∨ ∃ g off cap, v = .slice (some ⟨g, off, none⟩) os.length cap ∧ g < w.heap.size ∧
    ∀ k, k < os.length → w.cell? ⟨g, off + k * 3, none⟩ = some (.int .i64 (os.getD k (0, 0, 0)).1) ∧ w.cell? ⟨g, off + k * 3 + 1, none⟩ = some (.int .u64 (os.getD k (0, 0, 0)).2.1) ∧ w.cell? ⟨g, off + k * 3 + 2, none⟩ = some (.int .i64 (os.getD k (0, 0, 0)).2.2)
theorem OpsAt.ext {w w' : World} {v : Value} {os : List Opn} (h : OpsAt w v os) (he : Ext w w') : OpsAt w' v os := by
  rcases h with h | ⟨g, off, cap, h1, h2, h3⟩
  · exact .inl h
  · exact .inr ⟨g, off, cap, h1, Nat.lt_of_lt_of_le h2 he.size, fun k hk => ⟨((bcell he).1 _ _ h2).trans (h3 k hk).1, ((bcell he).1 _ _ h2).trans (h3 k hk).2.1, ((bcell he).1 _ _ h2).trans (h3 k hk).2.2⟩⟩
theorem OpsAt.sl {w : World} {v : Value} {os : List Opn} (h : OpsAt w v os) : ∃ p c, v = .slice p os.length c := by
  rcases h with ⟨⟨p, rfl⟩, rfl⟩ | ⟨g, off, cap, rfl, _⟩
  · exact ⟨p, 0, rfl⟩
  · exact ⟨_, cap, rfl⟩
theorem OpsAt.one {w : World} {p : Option Addr} {n c : Nat} {os : List Opn} (h : OpsAt w (.slice p n c) os) {k : Nat} (hk : k < os.length) :
    ∃ g off, p = some ⟨g, off, none⟩ ∧ g < w.heap.size ∧ w.cell? ⟨g, off + k * 3, none⟩ = some (.int .i64 os[k].1) ∧ w.cell? ⟨g, off + k * 3 + 1, none⟩ = some (.int .u64 os[k].2.1) ∧ w.cell? ⟨g, off + k * 3 + 2, none⟩ = some (.int .i64 os[k].2.2) := by
  rcases h with ⟨_, rfl⟩ | ⟨g, off, cap, h1, h2, h3⟩
  · exact absurd hk (Nat.not_lt_zero _)
  · have e := Value.slice.inj h1
    have hg : os.getD k (0, 0, 0) = os[k] := by simp [hk]
    have := h3 k hk
    rw [hg] at this
    exact ⟨g, off, e.1, h2, this⟩
end Go.Proofs.YtfhdjekpdifajaaGreat
namespace Go.Proofs.YtfhdjekpdifajaaGreat
set_option linter.unusedVariables false
open Go.RowKit
section
variable {P : Program}
/-- 's = append(s, ..)', the new ones in a block that was laid just now. -/
theorem wpList_appK (W : World) {ops : Array Oper} {rest : List Oper} {o : Oper} {a : Act} {Q : Exit → Act → World → Prop} (size by_ m : Nat) (hsz : 0 < size) (hby : by_ ≤ 64) (news : List Value) (hnl : news.length = m * size) (h1 : ∀ u ∈ news, u.oneCell' = true)
    (xs : List Value) (n : Nat) (v : Value) (base : Nat) (e e' : TypeId) (hown : W.ownsRow base e size v n xs) (t : TypeId)
    (hgd : o.guard = none) (s y : Operand) (ho : o.op = .call { callee := .builtin .append, args := #[s, y], argTypes := #[t, t] })
    (hinfo : ∃ i z, P.info? e = some i ∧ i.zero = some z ∧ i.size = size ∧ i.bytes = by_ ∧ z.cells.size = size) (ht : P.underlying t = some (.slice e))
    (cells : Array Value) (hcl : cells.toList = news)
    (hs : a.eval s = v) (hx : a.eval y = .slice (some ⟨W.heap.size, 0, none⟩) m m)
    (hl : n + m ≤ 1000000000) (hbase : base ≤ W.heap.size)
    (h : ∀ v' w', w'.ownsRow base e size v' (n + m) (xs ++ news) → (W.alloc (.cells cells e')).grownBy w' v.ownBlock → (v'.ownBlock = v.ownBlock ∨ v'.ownBlock = some (W.heap.size + 1)) → wpList P ops Q rest (a.put o.dst v') w') :
    wpList P ops Q (o :: rest) a (W.alloc (.cells cells e')) := by
  obtain ⟨i0, z, hi, hz0, hz1, hz2, hz3⟩ := hinfo
  refine wpList_append_sep _ hgd s y t ho base e i0 z size by_ ht hi hz0 hz1 hz2 hz3 hsz v n xs hs (hown.alloc _) ⟨W.heap.size, 0, none⟩ m m news hx hnl ?_ h1 (by unfold maxLen; omega) ?_ (by rw [size_alloc]; omega) ?_
  · intro j u hu
    rw [show (⟨W.heap.size, 0, none⟩ : Addr).add j = ⟨W.heap.size, j, none⟩ by (simp [Addr.add]; try omega), cell_of (heap_at W _ rfl) j, ← Array.getElem?_toList, hcl]
    exact hu
  · have h2 : (n + m) * by_ ≤ 1000000000 * 64 := Nat.mul_le_mul hl hby
    omega
  · intro v' w' h1 h2 h3
    rw [size_alloc] at h3
    exact h v' w' h1 h2 h3
end
theorem own_grownT {W W' : World} {bA bB nA nB sA sB : Nat} {eA eB : TypeId} {vA vB : Value} {xA xB : List Value} (hA : W.ownsRow bA eA sA vA nA xA) (hB : W.ownsRow bB eB sB vB nB xB) (hne : eA ≠ eB) (hg : W.grownBy W' vB.ownBlock) : W'.ownsRow bA eA sA vA nA xA :=
  own_keepB hA fun k hk => hg.block k (own_lt hA hk) fun e => by
    obtain ⟨c1, h1⟩ := own_type hA hk
    obtain ⟨c2, h2⟩ := own_type hB e.symm
    rw [h1] at h2
    cases h2
    exact hne rfl
/-- A row that was there before another one's base. -/
theorem own_grownL {W W' : World} {bA bB nA nB sA sB : Nat} {eA eB : TypeId} {vA vB : Value} {xA xB : List Value} (hA : W.ownsRow bA eA sA vA nA xA) (hB : W.ownsRow bB eB sB vB nB xB) (hlt : ∀ k, vA.ownBlock = some k → k < bB) (hg : W.grownBy W' vB.ownBlock) : W'.ownsRow bA eA sA vA nA xA :=
  own_keepB hA fun k hk => hg.block k (own_lt hA hk) fun e => by
    have h1 := hlt k hk
    rcases hB.2 with ⟨rfl, _⟩ | ⟨g, cap, cur, rfl, hb, _⟩
    · cases e
    · have : k = g := Option.some.inj e
      omega
theorem own_bmono {w : World} {base base' n size : Nat} {e : TypeId} {v : Value} {xs : List Value} (h : w.ownsRow base e size v n xs) (hb : base' ≤ base) : w.ownsRow base' e size v n xs := by
  obtain ⟨h1, h2⟩ := h
  refine ⟨h1, ?_⟩
  rcases h2 with h2 | ⟨g, cap, cur, h3, h4, h5⟩
  · exact .inl h2
  · exact .inr ⟨g, cap, cur, h3, Nat.le_trans hb h4, h5⟩
theorem own_geB {w : World} {base n size : Nat} {e : TypeId} {v : Value} {xs : List Value} (h : w.ownsRow base e size v n xs) {k : Nat} (hk : v.ownBlock = some k) : base ≤ k := by
  rcases h.2 with ⟨rfl, _⟩ | ⟨g, cap, cur, rfl, hb, _⟩
  · cases hk
  · have : g = k := Option.some.inj hk
    omega
/-- What is laid in one piece is a row. -/
theorem own_newK (w : World) (base : Nat) (hb : base ≤ w.heap.size) (e : TypeId) (size n : Nat) (cells : Array Value) (hn : n ≤ maxLen) (hc : cells.size = n * size) : (w.alloc (.cells cells e)).ownsRow base e size (.slice (some ⟨w.heap.size, 0, none⟩) n n) n cells.toList := by
  refine ⟨by rw [Array.length_toList]; exact hc, .inr ⟨w.heap.size, n, cells, rfl, hb, heap_at w _ rfl, Nat.le_refl _, hn, hc, ?_⟩⟩
  rw [← hc, ← Array.length_toList, List.take_length]
theorem own_row_cells {w : World} {base n size : Nat} {e : TypeId} {v : Value} {xs : List Value} (h : w.ownsRow base e size v n xs) (hn : 0 < n) : ∃ g cap, v = .slice (some ⟨g, 0, none⟩) n cap ∧ base ≤ g ∧ g < w.heap.size ∧ ∀ j, j < n * size → w.cell? ⟨g, j, none⟩ = xs[j]? := by
  rcases h.2 with ⟨_, h0⟩ | ⟨g, cap, cur, rfl, hb, hh, hc, hm, hs, ht⟩
  · omega
  · refine ⟨g, cap, rfl, hb, lt_of hh, fun j hj => ?_⟩
    rw [cell_of hh, ← ht, List.getElem?_take_of_lt hj, Array.getElem?_toList]
end Go.Proofs.YtfhdjekpdifajaaGreat
namespace Go.Proofs.YtfhdjekpdifajaaGreat
set_option linter.unusedVariables false
open Go.RowKit
def sF (s b c : Nat) (k : Nat) : Prop := k = s ∨ k = b ∨ k = c
theorem SAt.own {w : World} {s b c : Nat} {C : Cfg} {lv : Int} {R W : Nat} {l : List Int} (h : SAt w s b c C lv R W l) : Own (sF s b c) (fun w => SAt w s b c C lv R W l) w :=
  ⟨h, fun w w' h hk => h.keep (hk s (.inl rfl)) (hk b (.inr (.inl rfl))) (hk c (.inr (.inr rfl))), fun k hk => by
    rcases hk with rfl | rfl | rfl
    · exact h.lts
    · exact h.g.ltb
    · exact h.g.ltc⟩
/-- Two sketches, and two of the references. -/
def Q4 (N : Nat) (w : World) (C : Cfg) (lv : Int) (R W : Nat) (s o r q : Nat) (l m l' m' : List Int) : Prop :=
  ∃ b c b2 c2 G G2, Own4 N w (sF s b c) (sF o b2 c2) (rsF r G R) (rsF q G2 R) (fun w => SAt w s b c C lv R W l) (fun w => SAt w o b2 c2 C lv R W m) (fun w => RSAt w r G C lv R W l') (fun w => RSAt w q G2 C lv R W m')
section
variable {N : Nat} {w w' : World} {C : Cfg} {lv : Int} {R W : Nat} {s o r q : Nat} {l m l' m' : List Int}
theorem Q4.ext (h : Q4 N w C lv R W s o r q l m l' m') (he : Ext w w') : Q4 N w' C lv R W s o r q l m l' m' := by
  obtain ⟨b, c, b2, c2, G, G2, h⟩ := h
  exact ⟨b, c, b2, c2, G, G2, h.ext he⟩
end
end Go.Proofs.YtfhdjekpdifajaaGreat
namespace Go.Proofs.YtfhdjekpdifajaaGreat
set_option linter.unusedVariables false
open Go.RowKit
/-- The blocks of a stack. -/
def kF (s g B : Nat) (L : Nat → Lev) (k : Nat) : Prop := k = s ∨ k = g ∨ ∃ n, n ≤ B ∧ (k = (L n).s ∨ k = (L n).b ∨ k = (L n).c)
theorem KAt.keep {w w' : World} {s g : Nat} {C : Cfg} {B : Nat} {L : Nat → Lev} {ls : Nat → List Int} (h : KAt w s g C B L ls) (hk : ∀ k, kF s g B L k → w'.heap[k]? = w.heap[k]?) : KAt w' s g C B L ls :=
  ⟨by rw [hk s (.inl rfl)]; exact h.ex, by rw [hk g (.inr (.inl rfl))]; exact h.row, fun n hn => (h.lev n hn).keep (hk _ (.inr (.inr ⟨n, hn, .inl rfl⟩))) (hk _ (.inr (.inr ⟨n, hn, .inr (.inl rfl)⟩))) (hk _ (.inr (.inr ⟨n, hn, .inr (.inr rfl)⟩))), h.sep, h.ok, h.hB⟩
theorem KAt.own {w : World} {s g : Nat} {C : Cfg} {B : Nat} {L : Nat → Lev} {ls : Nat → List Int} (h : KAt w s g C B L ls) : Own (kF s g B L) (fun w => KAt w s g C B L ls) w :=
  ⟨h, fun w w' h hk => h.keep hk, fun k hk => by
    rcases hk with rfl | rfl | ⟨n, hn, rfl | rfl | rfl⟩
    · exact h.lts
    · exact h.ltg
    · exact (h.lev n hn).lts
    · exact (h.lev n hn).ltb
    · exact (h.lev n hn).ltc⟩
section
variable {N : Nat} {w w' : World} {F1 F2 F3 F4 : Nat → Prop} {P1 P2 P3 P4 : World → Prop} {C : Cfg} {B s r : Nat} {g t : Nat} {L : Nat → Lev} {M : Nat → RLev} {l l' : Nat → List Int}
end
end Go.Proofs.YtfhdjekpdifajaaGreat
namespace Go.Proofs.YtfhdjekpdifajaaGreat
set_option linter.unusedVariables false
open Go.RowKit
/-- A stack of the program and one of the references that have the same cells. -/
def S2 (N : Nat) (w : World) (C : Cfg) (B : Nat) (v1 v2 : Value) : Prop :=
  ∃ s g L r t M l, v1 = .pointer (some ⟨s, 0, none⟩) ∧ v2 = .pointer (some ⟨r, 0, none⟩) ∧ Own4 N w (kF s g B L) (fun _ => False) (rkF r t C B M) (fun _ => False) (fun w => KAt w s g C B L l) (fun _ => True) (fun w => RKAt w r t C B M l) (fun _ => True)
theorem S2.mk {N : Nat} {w : World} {C : Cfg} {B s g r t : Nat} {L : Nat → Lev} {M : Nat → RLev} {l : Nat → List Int} (h : Own4 N w (kF s g B L) (fun _ => False) (rkF r t C B M) (fun _ => False) (fun w => KAt w s g C B L l) (fun _ => True) (fun w => RKAt w r t C B M l) (fun _ => True)) : S2 N w C B (.pointer (some ⟨s, 0, none⟩)) (.pointer (some ⟨r, 0, none⟩)) := ⟨s, g, L, r, t, M, l, rfl, rfl, h⟩
end Go.Proofs.YtfhdjekpdifajaaGreat
namespace Go.Proofs.YtfhdjekpdifajaaGreat
set_option linter.unusedVariables false
open Go.RowKit
/-- A row of one's own. -/
def ZAt (w : World) (z K : Nat) (xs : List Int) : Prop := xs.length = K ∧ (∀ x ∈ xs, I64 x) ∧ ∃ cur, w.heap[z]? = some (.cells cur 2 (0, 0)) ∧ ∀ j, j < K → cur[j]? = some (.int .i64 (xs.getD j 0))
theorem ZAt.set {w : World} {z K i : Nat} {xs : List Int} {d : Int} (h : ZAt w z K xs) (hi : i < K) (hd : I64 d) : ZAt (w.setCell ⟨z, i, none⟩ (.int .i64 d)) z K (xs.set i d) := by
  obtain ⟨rfl, h2, cur, h3, h4⟩ := h
  refine ⟨List.length_set, fun y hy => ?_, _, setCell_same h3 i _, fun k hk => ?_⟩
  · rcases List.mem_or_eq_of_mem_set hy with h | rfl
    · exact h2 y h
    · exact hd
  · by_cases e : k = i
    · subst e
      have hsz : k < cur.size := by
        have := h4 k hk
        rw [Array.getElem?_eq_some_iff] at this
        exact this.1
      rw [Array.getElem?_setIfInBounds_self_of_lt hsz, List.getD_eq_getElem?_getD, List.getElem?_set_self hk]
      rfl
    · rw [Array.getElem?_setIfInBounds_ne (fun h => e h.symm), h4 k hk, List.getD_eq_getElem?_getD, List.getD_eq_getElem?_getD, List.getElem?_set_ne (fun h => e h.symm)]
theorem ZAt.ints {w : World} {z K zc : Nat} {xs : List Int} (h : ZAt w z K xs) : IntsAt w (.slice (some ⟨z, 0, none⟩) K zc) xs := by
  obtain ⟨rfl, h2, cur, h3, h4⟩ := h
  exact .inr ⟨z, 0, zc, rfl, lt_of h3, fun k hk => by rw [cell_of h3, Nat.zero_add]; exact h4 k hk⟩
theorem ZAt.lt {w : World} {z K : Nat} {xs : List Int} (h : ZAt w z K xs) : z < w.heap.size := by obtain ⟨_, _, cur, h3, _⟩ := h; exact lt_of h3
theorem ZAt.cell {w : World} {z K i : Nat} {xs : List Int} (h : ZAt w z K xs) (hi : i < K) : w.cell? ⟨z, i, none⟩ = some (.int .i64 (xs.getD i 0)) ∧ w.frozen? ⟨z, i, none⟩ = false := by
  obtain ⟨_, _, cur, h3, h4⟩ := h; exact ⟨(cell_of h3 i).trans (h4 i hi), frozen_of h3 i⟩
end Go.Proofs.YtfhdjekpdifajaaGreat
namespace Go.Proofs.YtfhdjekpdifajaaGreat
set_option linter.unusedVariables false
open Go.RowKit
def u64s (l : List Int) : List Value := l.map fun x => .int .u64 x
theorem u64s_len (l : List Int) : (u64s l).length = l.length := by unfold u64s; rw [List.length_map]
theorem u64s_append (a b : List Int) : u64s (a ++ b) = u64s a ++ u64s b := by unfold u64s; rw [List.map_append]
theorem info_u64 : ∃ i z, Tryz.prog.info? 22 = some i ∧ i.zero = some z ∧ i.size = 1 ∧ i.bytes = 8 ∧ z.cells.size = 1 := by
  have h : (Tryz.prog.info? 22).map (fun i => (i.zero, i.size, i.bytes)) = some (some (.int .u64 0), 1, 8) := by kernel_rfl
  match hi : Tryz.prog.info? 22, h with
  | some i, h =>
    simp only [Option.map_some, Option.some.injEq, Prod.mk.injEq] at h
    exact ⟨i, _, rfl, h.1, h.2.1, h.2.2, rfl⟩
/-- A slice of uint64s. -/
def UAt (w : World) (v : Value) (xs : List Int) : Prop :=
  (v = .slice none 0 0 ∧ xs = []) ∨ ∃ g off cap, v = .slice (some ⟨g, off, none⟩) xs.length cap ∧ g < w.heap.size ∧ ∀ k, k < xs.length → w.cell? ⟨g, off + k, none⟩ = some (.int .u64 (xs.getD k 0))
theorem UAt.ext {w w' : World} {v : Value} {xs : List Int} (h : UAt w v xs) (he : Ext w w') : UAt w' v xs := by
  rcases h with h | ⟨g, off, cap, h1, h2, h3⟩
  · exact .inl h
  · exact .inr ⟨g, off, cap, h1, Nat.lt_of_lt_of_le h2 he.size, fun k hk => ((bcell he).1 _ _ h2).trans (h3 k hk)⟩
theorem UAt.of_row {w : World} {base : Nat} {e : TypeId} {v : Value} {n : Nat} {xs : List Int} (h : w.ownsRow base e 1 v n (u64s xs)) : UAt w v xs := by
  have hn : n = xs.length := by have := h.1; rw [u64s_len] at this; omega
  subst hn
  by_cases h0 : 0 < xs.length
  · obtain ⟨g, cap, rfl, _, hg, hc⟩ := own_row_cells h h0
    refine .inr ⟨g, 0, cap, rfl, hg, fun k hk => ?_⟩
    rw [show (0 + k) = k by omega, hc k (by omega)]
    unfold u64s
    rw [List.getElem?_map, List.getElem?_eq_getElem hk]
    simp [List.getD, hk]
  · have hx : xs = [] := List.length_eq_zero_iff.1 (by omega)
    subst hx
    rcases h.2 with ⟨rfl, _⟩ | ⟨g, cap, cur, rfl, _, hh, _⟩
    · exact .inl ⟨rfl, rfl⟩
    · exact .inr ⟨g, 0, cap, rfl, lt_of hh, fun k hk => by simp at hk⟩
theorem UAt.sl {w : World} {v : Value} {xs : List Int} (h : UAt w v xs) : ∃ p c, v = .slice p xs.length c := by
  rcases h with ⟨rfl, rfl⟩ | ⟨g, off, cap, rfl, _⟩
  · exact ⟨none, 0, rfl⟩
  · exact ⟨_, _, rfl⟩
theorem UAt.one {w : World} {p : Option Addr} {n c : Nat} {xs : List Int} (h : UAt w (.slice p n c) xs) {k : Nat} (hk : k < n) : ∃ g off, p = some ⟨g, off, none⟩ ∧ g < w.heap.size ∧ w.cell? ⟨g, off + k, none⟩ = some (.int .u64 (xs.getD k 0)) := by
  rcases h with ⟨h1, _⟩ | ⟨g, off, cap, h1, h2, h3⟩
  · cases h1; omega
  · cases h1
    exact ⟨g, off, rfl, h2, h3 k hk⟩
theorem IntsAt.oneH {w : World} {p : Option Addr} {n c : Nat} {xs : List Int} (h : IntsAt w (.slice p n c) xs) {k : Nat} (hk : k < n) : ∃ g off, p = some ⟨g, off, none⟩ ∧ g < w.heap.size ∧ w.cell? ⟨g, off + k, none⟩ = some (.int .i64 (xs.getD k 0)) := by
  rcases h with ⟨h1, _⟩ | ⟨g, off, cap, h1, h2, h3⟩
  · cases h1; omega
  · cases h1
    exact ⟨g, off, rfl, h2, h3 k hk⟩
/-- One after the other, up to the first error. -/
def eachR {α : Type} (f : α → Int × Int) (l : List α) : List Int × Int := match l.find? (fun x => decide ((f x).2 ≠ 0)) with | none => (l.map fun x => (f x).1, 0) | some x => ([], (f x).2)
theorem eachR_ok {α : Type} {f : α → Int × Int} {l : List α} (h : ∀ x ∈ l, (f x).2 = 0) : eachR f l = (l.map fun x => (f x).1, 0) := by
  unfold eachR
  rw [List.find?_eq_none.2 (fun x hx => by simp [h x hx])]
theorem eachR_err {α : Type} {f : α → Int × Int} {pre suf : List α} {x : α} (h : ∀ y ∈ pre, (f y).2 = 0) (hx : (f x).2 ≠ 0) : eachR f (pre ++ x :: suf) = ([], (f x).2) := by
  unfold eachR
  have h1 : (pre ++ x :: suf).find? (fun x => decide ((f x).2 ≠ 0)) = some x := by
    rw [List.find?_append, List.find?_eq_none.2 (fun y hy => by simp [h y hy])]
    simp [hx]
  rw [h1]
theorem list_split {α : Type} {l : List α} {k : Nat} (h : k < l.length) : l = l.take k ++ l[k] :: l.drop (k + 1) := by
  rw [← List.drop_eq_getElem_cons h, List.take_append_drop]
theorem take_map_snoc {α : Type} {f : α → Int × Int} {l : List α} {k : Nat} (h : k < l.length) : (l.take (k + 1)).map (fun x => (f x).1) = (l.take k).map (fun x => (f x).1) ++ [(f l[k]).1] := by
  rw [List.take_add_one, List.getElem?_eq_getElem h, List.map_append]; rfl
def EachPost (w : World) (r : List Int × Int) (e : Ending) (w' : World) : Prop :=
  ∃ v, e = .returned (.tuple #[v, .int .i64 r.2]) ∧ w'.ownsRow w.heap.size 22 1 v r.1.length (u64s r.1) ∧ Ext w w'
set_option maxRecDepth 20000 in
set_option maxHeartbeats 4000000 in
theorem Ask1_c (s b : Nat) (f : Int → Int × Int) (k : Int) (w : World) (hb : w.cell? ⟨b, 0, none⟩ = some (.pointer (some ⟨s, 0, none⟩))) (hbl : b < w.heap.size)
    (hq : Calls Tryz.prog 33 #[.pointer (some ⟨s, 0, none⟩), .int .i64 k] w fun e w' => e = .returned (.tuple #[.int .u64 (f k).1, .int .i64 (f k).2]) ∧ Ext w w') :
    Calls Tryz.prog 130 #[.int .i64 k, .pointer (some ⟨b, 0, none⟩)] w fun e w' => e = .returned (.tuple #[.int .u64 (f k).1, .int .i64 (f k).2]) ∧ Ext w w' := by
  have HQ := Lib.hid hq
  clear hq
  go_enter Tryz.func130, Tryz.ntmps130
  go_wp2_with fail
  refine Calls.mono HQ.out ?_
  rintro e w1 ⟨rfl, hx1⟩
  go_wp2
  go_ret2
  exact ⟨rfl, hx1⟩
set_option maxRecDepth 20000 in
set_option maxHeartbeats 8000000 in
theorem Each1_c (b : Nat) (f : Int → Int × Int) (ks : List Int) (p : Option Addr) (cap : Nat) (w : World) (hks : IntsAt w (.slice p ks.length cap) ks) (hl : ks.length ≤ 100000)
    (hask : ∀ k ∈ ks, ∀ W', Ext w W' → Calls Tryz.prog 130 #[.int .i64 k, .pointer (some ⟨b, 0, none⟩)] W' fun e w' => e = .returned (.tuple #[.int .u64 (f k).1, .int .i64 (f k).2]) ∧ Ext W' w') :
    Calls Tryz.prog 129 #[.slice p ks.length cap, .func (.func 130) #[] #[.pointer (some ⟨b, 0, none⟩)]] w (EachPost w (eachR f ks)) := by
  have HK := Lib.hid hks
  have HA := Lib.hid hask
  clear hks hask
  generalize hn : ks.length = n at *
  have HN := Lib.hid hn
  clear hn
  go_enter Tryz.func129, Tryz.ntmps129
  go_wp2_with fail
  go_loopw [6, 13] (fun u6 u13 wr => ∃ k : Nat, k ≤ n ∧ u13 = .int .i64 k ∧ (∀ x ∈ ks.take k, (f x).2 = 0) ∧ wr.ownsRow w.heap.size 22 1 u6 k (u64s ((ks.take k).map fun x => (f x).1)) ∧ Ext w wr) (fun _ u13 _ => n - (intOf u13).toNat)
  case atStart => exact ⟨0, Nat.zero_le _, rfl, by simp, ⟨rfl, .inl ⟨rfl, rfl⟩⟩, Ext.refl _⟩
  case round =>
    obtain ⟨k, hk, rfl, hall, hown, hE⟩ := hrel
    obtain ⟨po, co, rfl⟩ := own_sl hown
    have HO := Lib.hid hown
    have HALL := Lib.hid hall
    clear hown hall
    by_cases hlt : k < n
    · have hkl : k < ks.length := by rw [HN.out]; exact hlt
      obtain ⟨g, off, rfl, hg, hc⟩ := (HK.out.ext hE).oneH hlt
      have hx : ks.getD k 0 = ks[k] := by simp [List.getD, hkl]
      rw [hx] at hc
      have hcall := HA.out ks[k] (List.getElem_mem hkl) wr hE
      have hsp := list_split hkl
      have hsn := take_map_snoc (f := f) hkl
      have HSP := Lib.hid hsp
      have HSN := Lib.hid hsn
      have hts : ks.take (k + 1) = ks.take k ++ [ks[k]] := by rw [List.take_add_one, List.getElem?_eq_getElem hkl]; rfl
      have HTS := Lib.hid hts
      have HCALL := Lib.hid hcall
      clear hcall hsp hsn hx hts
      generalize ks[k] = kk at *
      go_wp2_with fail
      refine Calls.mono HCALL.out ?_
      rintro e w2 ⟨rfl, hx2⟩
      have hE2 := hE.trans' hx2
      have HO2 := Lib.hid (own_ext HO.out hx2)
      clear hx2 hc hg
      by_cases he : (f kk).2 = 0
      · rw [he]
        have hs2 := hE2.size
        generalize hfv : (f kk).1 = y at *
        go_wp2_with (at_builtin; refine wpList_appK w2 1 8 1 (by decide) (by decide) [.int .u64 y] rfl (by simp [Value.oneCell']) _ k _ w.heap.size 22 _ HO2.out 110 rfl _ _ rfl info_u64 Tryz.underlying110 _ rfl (by rfl) (by rfl) ?a1 ?a2 ?_)
        case a1 => omega
        case a2 => exact hs2
        intro v' w3 g1 g2 _
        have hE3 : Ext w w3 := ext_grown hE2 g2 (fun j hj => own_geB HO2.out hj)
        obtain ⟨po3, co3, rfl⟩ := own_sl g1
        have G1 := Lib.hid g1
        clear g1 g2
        go_wp2
        go_roundw
        case rel => exact ⟨k + 1, by omega, by go_num, fun x hx => by
          rw [HTS.out] at hx
          rcases List.mem_append.1 hx with hx | hx
          · exact HALL.out x hx
          · rw [List.mem_singleton.1 hx]; exact he, by rw [HSN.out, u64s_append, List.map_take]; exact G1.out, hE3⟩
        case measure => simp [intOf]; omega
      · have hne : ((f kk).2 == 0) = false := beq_eq_false_iff_ne.2 he
        have hres : eachR f ks = ([], (f kk).2) := by
          rw [HSP.out]; exact eachR_err HALL.out he
        have HRES := Lib.hid hres
        clear hres
        generalize (f kk).2 = er at *
        go_wp2
        go_ret2
        refine ⟨.slice none 0 0, ?_, ?_, hE2⟩
        · rw [HRES.out]; rfl
        · rw [HRES.out]; exact ⟨rfl, .inl ⟨rfl, rfl⟩⟩
    · obtain rfl : k = n := by omega
      have htk : ks.take k = ks := List.take_of_length_le (by rw [HN.out]; exact Nat.le_refl _)
      have hres : eachR f ks = (ks.map fun x => (f x).1, 0) := eachR_ok (fun x hx => HALL.out x (by rw [htk]; exact hx))
      have ho := HO.out
      rw [htk] at ho
      have HO3 := Lib.hid ho
      have HRES := Lib.hid hres
      clear htk hres ho
      go_wp2
      go_ret2
      refine ⟨.slice po k co, ?_, ?_, hE⟩
      · rw [HRES.out]; rfl
      · rw [HRES.out]
        show World.ownsRow _ _ _ _ _ (ks.map _).length _
        rw [List.length_map, HN.out]
        exact HO3.out
end Go.Proofs.YtfhdjekpdifajaaGreat
namespace Go.Proofs.YtfhdjekpdifajaaGreat
set_option linter.unusedVariables false
open Go.RowKit
section
variable {P : Program}
end
/-- A slice of uint64s that came in. -/
def USl (w : World) (p : Option Addr) (n cap : Nat) (l : List Int) : Prop :=
  n = l.length ∧ n ≤ cap ∧ ((n = 0 ∧ (p = none → cap = 0)) ∨ ∃ g off, p = some ⟨g, off, none⟩ ∧ g < w.heap.size ∧ ∀ k, k < n → w.cell? ⟨g, off + k, none⟩ = some (.int .u64 (l.getD k 0)))
def allU (l : List Int) : Prop := ∀ x ∈ l, U64 x
end Go.Proofs.YtfhdjekpdifajaaGreat
namespace Go.Proofs.YtfhdjekpdifajaaGreat
set_option linter.unusedVariables false
open Go.RowKit
set_option maxRecDepth 20000 in
set_option maxHeartbeats 4000000 in
theorem Quantiles_c (s : Nat) (f : Int → Int × Int) (ks : List Int) (p : Option Addr) (cap : Nat) (w : World) (hks : IntsAt w (.slice p ks.length cap) ks) (hl : ks.length ≤ 100000)
    (hq : ∀ k ∈ ks, ∀ W', Ext w W' → Calls Tryz.prog 33 #[.pointer (some ⟨s, 0, none⟩), .int .i64 k] W' fun e w' => e = .returned (.tuple #[.int .u64 (f k).1, .int .i64 (f k).2]) ∧ Ext W' w') :
    Calls Tryz.prog 71 #[.pointer (some ⟨s, 0, none⟩), .slice p ks.length cap] w (EachPost w (eachR f ks)) := by
  have hx0 : Ext w (w.alloc (.cells #[.pointer (some ⟨s, 0, none⟩)] 28)) := Ext.alloc' _ _
  have hbx := heap_at w (.cells #[.pointer (some ⟨s, 0, none⟩)] 28) rfl
  have hE := Each1_c w.heap.size f ks p cap _ (hks.ext hx0) hl (fun k hk W' hE' => Ask1_c s w.heap.size f k W' ((cell_of (hE'.keep hbx) 0).trans rfl) (lt_of (hE'.keep hbx)) (hq k hk W' (hx0.trans' hE')))
  have HE := Lib.hid hE
  clear hE hq hks hbx
  generalize hn : ks.length = n at *
  go_enter Tryz.func71, Tryz.ntmps71
  go_wp2_with fail
  refine Calls.mono HE.out ?_
  rintro e w1 ⟨v, rfl, ho, hx1⟩
  have HX1 := Lib.hid (hx0.trans' hx1)
  have HO := Lib.hid (own_bmono ho hx0.size)
  clear ho hx1 hx0
  go_wp2
  go_ret2
  exact ⟨v, rfl, HO.out, HX1.out⟩
end Go.Proofs.YtfhdjekpdifajaaGreat
namespace Go.Proofs.YtfhdjekpdifajaaGreat
set_option linter.unusedVariables false
open Go.RowKit
def spV (l : List (Int × Int)) : List Value := l.flatMap fun p => [.int .u64 p.1, .int .u64 p.2]
theorem spV_append (a b : List (Int × Int)) : spV (a ++ b) = spV a ++ spV b := by unfold spV; rw [List.flatMap_append]
theorem spV_at {l : List (Int × Int)} : ∀ {k : Nat} (h : k < l.length), (spV l)[k * 2]? = some (.int .u64 l[k].1) ∧ (spV l)[k * 2 + 1]? = some (.int .u64 l[k].2) := by
  induction l with
  | nil => intro k h; simp at h
  | cons u l ih =>
    intro k h
    have e : spV (u :: l) = .int .u64 u.1 :: .int .u64 u.2 :: spV l := rfl
    rw [e]
    cases k with
    | zero => exact ⟨rfl, rfl⟩
    | succ k =>
      have := ih (k := k) (by simpa using h)
      rw [show (k + 1) * 2 = k * 2 + 1 + 1 by omega]
      simp only [List.getElem?_cons_succ, List.getElem_cons_succ]
      exact this
theorem info_2u : ∃ i z, Tryz.prog.info? 209 = some i ∧ i.zero = some z ∧ i.size = 2 ∧ i.bytes = 16 ∧ z.cells.size = 2 := by
  have h : (Tryz.prog.info? 209).map (fun i => (i.zero, i.size, i.bytes)) = some (some (.agg #[.int .u64 0, .int .u64 0]), 2, 16) := by kernel_rfl
  match hi : Tryz.prog.info? 209, h with
  | some i, h =>
    simp only [Option.map_some, Option.some.injEq, Prod.mk.injEq] at h
    exact ⟨i, _, rfl, h.1, h.2.1, h.2.2, rfl⟩
theorem info_i64e : ∃ i z, Tryz.prog.info? 2 = some i ∧ i.zero = some z ∧ i.size = 1 ∧ i.bytes = 8 ∧ z.cells.size = 1 := by
  have h : (Tryz.prog.info? 2).map (fun i => (i.zero, i.size, i.bytes)) = some (some (.int .i64 0), 1, 8) := by kernel_rfl
  match hi : Tryz.prog.info? 2, h with
  | some i, h =>
    simp only [Option.map_some, Option.some.injEq, Prod.mk.injEq] at h
    exact ⟨i, _, rfl, h.1, h.2.1, h.2.2, rfl⟩
def EachIPost (w : World) (r : List Int × Int) (e : Ending) (w' : World) : Prop :=
  ∃ v, e = .returned (.tuple #[v, .int .i64 r.2]) ∧ w'.ownsRow w.heap.size 2 1 v r.1.length (ints r.1) ∧ Ext w w'
set_option maxRecDepth 20000 in
set_option maxHeartbeats 4000000 in
theorem Ask2_c (s b : Nat) (f : Int × Int → Int × Int) (x y : Int) (w : World) (hb : w.cell? ⟨b, 0, none⟩ = some (.pointer (some ⟨s, 0, none⟩))) (hbl : b < w.heap.size)
    (hq : ∀ W', Ext w W' → Calls Tryz.prog 80 #[.pointer (some ⟨s, 0, none⟩), .int .u64 x, .int .u64 y] W' fun e w' => e = .returned (.tuple #[.int .i64 (f (x, y)).1, .int .i64 (f (x, y)).2]) ∧ Ext W' w') :
    Calls Tryz.prog 132 #[.agg #[.int .u64 x, .int .u64 y], .pointer (some ⟨b, 0, none⟩)] w fun e w' => e = .returned (.tuple #[.int .i64 (f (x, y)).1, .int .i64 (f (x, y)).2]) ∧ Ext w w' := by
  have hx0 : Ext w (w.alloc (.cells #[.int .u64 x, .int .u64 y] 209)) := Ext.alloc' _ _
  have HQ := Lib.hid (hq _ hx0)
  clear hq
  go_enter Tryz.func132, Tryz.ntmps132
  go_wp2_with fail
  refine Calls.mono HQ.out ?_
  rintro e w1 ⟨rfl, hx1⟩
  have hE := hx0.trans' hx1
  go_wp2
  go_ret2
  exact ⟨rfl, hE⟩
set_option maxRecDepth 20000 in
set_option maxHeartbeats 8000000 in
theorem EachS_c (b : Nat) (f : Int × Int → Int × Int) (ks : List (Int × Int)) (base : Nat) (p : Option Addr) (cap : Nat) (w : World) (hks : w.ownsRow base 209 2 (.slice p ks.length cap) ks.length (spV ks)) (hl : ks.length ≤ 100000)
    (hask : ∀ k ∈ ks, ∀ W', Ext w W' → Calls Tryz.prog 132 #[.agg #[.int .u64 k.1, .int .u64 k.2], .pointer (some ⟨b, 0, none⟩)] W' fun e w' => e = .returned (.tuple #[.int .i64 (f k).1, .int .i64 (f k).2]) ∧ Ext W' w') :
    Calls Tryz.prog 131 #[.slice p ks.length cap, .func (.func 132) #[] #[.pointer (some ⟨b, 0, none⟩)]] w (EachIPost w (eachR f ks)) := by
  have HK := Lib.hid hks
  have HA := Lib.hid hask
  clear hks hask
  generalize hn : ks.length = n at *
  have HN := Lib.hid hn
  clear hn
  go_enter Tryz.func131, Tryz.ntmps131
  go_wp2_with fail
  go_loopw [6, 13] (fun u6 u13 wr => ∃ k : Nat, k ≤ n ∧ u13 = .int .i64 k ∧ (∀ x ∈ ks.take k, (f x).2 = 0) ∧ wr.ownsRow w.heap.size 2 1 u6 k (ints ((ks.take k).map fun x => (f x).1)) ∧ Ext w wr) (fun _ u13 _ => n - (intOf u13).toNat)
  case atStart => exact ⟨0, Nat.zero_le _, rfl, by simp, ⟨rfl, .inl ⟨rfl, rfl⟩⟩, Ext.refl _⟩
  case round =>
    obtain ⟨k, hk, rfl, hall, hown, hE⟩ := hrel
    obtain ⟨po, co, rfl⟩ := own_sl hown
    have HO := Lib.hid hown
    have HALL := Lib.hid hall
    clear hown hall
    by_cases hlt : k < n
    · have hkl : k < ks.length := by rw [HN.out]; exact hlt
      obtain ⟨g, capk, hv, _, hg, hcell⟩ := own_row_cells (own_ext HK.out hE) (by omega)
      cases hv
      have hcs := spV_at hkl
      have c0 := (hcell (k * 2) (by omega)).trans hcs.1
      have c1 := (hcell (k * 2 + 1) (by omega)).trans hcs.2
      have hEa : Ext w (wr.alloc (.cells #[.int .u64 ks[k].1, .int .u64 ks[k].2] 209)) := hE.allocR _
      have hcall := HA.out ks[k] (List.getElem_mem hkl) _ hEa
      have hsp := list_split hkl
      have hsn := take_map_snoc (f := f) hkl
      have HSP := Lib.hid hsp
      have HSN := Lib.hid hsn
      have hts : ks.take (k + 1) = ks.take k ++ [ks[k]] := by rw [List.take_add_one, List.getElem?_eq_getElem hkl]; rfl
      have HTS := Lib.hid hts
      have HCALL := Lib.hid hcall
      have HOA := Lib.hid (HO.out.alloc (.cells #[.int .u64 ks[k].1, .int .u64 ks[k].2] 209))
      clear hcall hsp hsn hts hcs hcell HO
      generalize ks[k] = kk at *
      go_wp2_with fail
      refine Calls.mono HCALL.out ?_
      rintro e w2 ⟨rfl, hx2⟩
      have hE2 := hEa.trans' hx2
      have HO2 := Lib.hid (own_ext HOA.out hx2)
      clear hx2 c0 c1 hg
      by_cases he : (f kk).2 = 0
      · rw [he]
        have hs2 := hE2.size
        generalize hfv : (f kk).1 = y at *
        go_wp2_with (at_builtin; refine wpList_appK w2 1 8 1 (by decide) (by decide) [.int .i64 y] rfl (by simp [Value.oneCell']) _ k _ w.heap.size 2 _ HO2.out 43 rfl _ _ rfl info_i64e Tryz.underlying43 _ rfl (by rfl) (by rfl) ?a1 ?a2 ?_)
        case a1 => omega
        case a2 => exact hs2
        intro v' w3 g1 g2 _
        have hE3 : Ext w w3 := ext_grown hE2 g2 (fun j hj => own_geB HO2.out hj)
        obtain ⟨po3, co3, rfl⟩ := own_sl g1
        have G1 := Lib.hid g1
        clear g1 g2
        go_wp2
        go_roundw
        case rel => exact ⟨k + 1, by omega, by go_num, fun x hx => by
          rw [HTS.out] at hx
          rcases List.mem_append.1 hx with hx | hx
          · exact HALL.out x hx
          · rw [List.mem_singleton.1 hx]; exact he, by rw [HSN.out, ints_app, List.map_take]; exact G1.out, hE3⟩
        case measure => simp [intOf]; omega
      · have hne : ((f kk).2 == 0) = false := beq_eq_false_iff_ne.2 he
        have hres : eachR f ks = ([], (f kk).2) := by
          rw [HSP.out]; exact eachR_err HALL.out he
        have HRES := Lib.hid hres
        clear hres
        generalize (f kk).2 = er at *
        go_wp2
        go_ret2
        refine ⟨.slice none 0 0, ?_, ?_, hE2⟩
        · rw [HRES.out]; rfl
        · rw [HRES.out]; exact ⟨rfl, .inl ⟨rfl, rfl⟩⟩
    · obtain rfl : k = n := by omega
      have htk : ks.take k = ks := List.take_of_length_le (by rw [HN.out]; exact Nat.le_refl _)
      have hres : eachR f ks = (ks.map fun x => (f x).1, 0) := eachR_ok (fun x hx => HALL.out x (by rw [htk]; exact hx))
      have ho := HO.out
      rw [htk] at ho
      have HO3 := Lib.hid ho
      have HRES := Lib.hid hres
      clear htk hres ho
      go_wp2
      go_ret2
      refine ⟨.slice po k co, ?_, ?_, hE⟩
      · rw [HRES.out]; rfl
      · rw [HRES.out]
        show World.ownsRow _ _ _ _ _ (ks.map _).length _
        rw [List.length_map, HN.out]
        exact HO3.out
/-- Do the cuts rise? -/
def Rise (cuts : List Int) (k : Nat) : Prop := ∀ j, j + 1 < k → cuts.getD j 0 < cuts.getD (j + 1) 0
/-- Are the cuts keys, but for 0? -/
def Inner (K : Int) (cuts : List Int) : Prop := ∀ c ∈ cuts, 1 ≤ c ∧ c < K
def spansL (K : Int) : Int → List Int → List (Int × Int)
  | a, [] => [(a, K - 1)]
  | a, c :: r => (a, c - 1) :: spansL K c r
open Classical in
noncomputable def histR (f : Int × Int → Int × Int) (K : Int) (cuts : List Int) : List Int × Int :=
  if ¬ Rise cuts cuts.length then ([], 1) else if ¬ Inner K cuts then ([], 2) else eachR f (spansL K 0 cuts)
end Go.Proofs.YtfhdjekpdifajaaGreat
namespace Go.Proofs.YtfhdjekpdifajaaGreat
set_option linter.unusedVariables false
open Go.RowKit
theorem spans_step {K a c : Int} {r : List Int} {pre tot : List (Int × Int)} (h : tot = pre ++ spansL K a (c :: r)) : tot = (pre ++ [(a, c - 1)]) ++ spansL K c r := by
  rw [h, List.append_assoc]; rfl
theorem drop_getD {l : List Int} {k : Nat} (h : k < l.length) : l.drop k = l.getD k 0 :: l.drop (k + 1) := by
  rw [List.drop_eq_getElem_cons h]; simp [List.getD, h]
theorem hist_rise {f : Int × Int → Int × Int} {K : Int} {cuts : List Int} (h : ¬ Rise cuts cuts.length) : histR f K cuts = ([], 1) := by unfold histR; rw [if_pos h]
theorem hist_key {f : Int × Int → Int × Int} {K : Int} {cuts : List Int} (h : Rise cuts cuts.length) (h2 : ¬ Inner K cuts) : histR f K cuts = ([], 2) := by unfold histR; rw [if_neg (fun h3 => h3 h), if_pos h2]
theorem hist_ok {f : Int × Int → Int × Int} {K : Int} {cuts : List Int} (h : Rise cuts cuts.length) (h2 : Inner K cuts) : histR f K cuts = eachR f (spansL K 0 cuts) := by unfold histR; rw [if_neg (fun h3 => h3 h), if_neg (fun h3 => h3 h2)]
set_option maxRecDepth 20000 in
set_option maxHeartbeats 8000000 in
theorem Hist_c (s g : Nat) (C : Cfg) (B : Nat) (L : Nat → Lev) (ls : Nat → List Int) (w : World) (h : KAt w s g C B L ls) (f : Int × Int → Int × Int) (cuts : List Int) (p : Option Addr) (cap : Nat) (hcu : UAt w (.slice p cuts.length cap) cuts) (hU : ∀ c ∈ cuts, U64 c) (hl : cuts.length ≤ 90000)
    (hq : ∀ x y, U64 x → U64 y → ∀ W', Ext w W' → Calls Tryz.prog 80 #[.pointer (some ⟨s, 0, none⟩), .int .u64 x, .int .u64 y] W' fun e w' => e = .returned (.tuple #[.int .i64 (f (x, y)).1, .int .i64 (f (x, y)).2]) ∧ Ext W' w') :
    Calls Tryz.prog 74 #[.pointer (some ⟨s, 0, none⟩), .slice p cuts.length cap] w (EachIPost w (histR f (keys C 0) cuts)) := by
  have hkb := keys_bd C h.ok 0 (Int.le_refl 0)
  have hok := h.ok
  have hx0 : Ext w (w.alloc (.cells #[.pointer (some ⟨s, 0, none⟩)] 28)) := Ext.alloc' _ _
  have hbx := heap_at w (.cells #[.pointer (some ⟨s, 0, none⟩)] 28) rfl
  have c0 := (cell_of hbx 0).trans rfl
  have cl := lt_of hbx
  have HBX := Lib.hid hbx
  have HH := Lib.hid (h.ext hx0)
  have HC := Lib.hid (hcu.ext hx0)
  have HQ := Lib.hid hq
  have HUC := Lib.hid hU
  have HOK := Lib.hid hok
  have HX0 := Lib.hid hx0
  clear h hcu hq hU hbx hok hx0
  generalize hn : cuts.length = n at *
  have HN := Lib.hid hn
  clear hn
  go_enter Tryz.func74, Tryz.ntmps74
  go_wp2_with fail
  generalize w.alloc (.cells #[.pointer (some ⟨s, 0, none⟩)] 28) = W0 at *
  refine (SKConfig_c s g C B L ls _ HH.out).mono ?_
  rintro e w1 ⟨rfl, hx1⟩
  go_wp2_with fail
  refine (Keys_c C HOK.out 0 (Int.le_refl 0) (by have := HOK.out.b1; omega) _).mono ?_
  rintro e w2 ⟨rfl, hx2⟩
  have HE0 := Lib.hid (hx1.trans' hx2)
  have hE2 := HX0.out.trans' HE0.out
  have HBX2 := Lib.hid (HE0.out.keep HBX.out)
  have HC2 := Lib.hid (HC.out.ext HE0.out)
  clear c0 cl HBX HH HC hx1 hx2 HX0
  generalize keys C 0 = K at *
  go_wp2_with fail
  go_loopw [18] (fun u18 wr => ∃ k : Nat, k ≤ n ∧ u18 = .int .i64 k ∧ Rise cuts k ∧ w2 = wr) (fun u18 _ => n - (intOf u18).toNat)
  case atStart => exact ⟨0, Nat.zero_le _, rfl, fun j hj => by omega, rfl⟩
  case round =>
    obtain ⟨k, hk, rfl, hri, rfl⟩ := hrel
    have HRI := Lib.hid hri
    clear hri
    by_cases hlt : k < n
    · obtain ⟨gc, off, rfl, hg, hc⟩ := HC2.out.one hlt
      cases k with
      | zero =>
        rw [Nat.add_zero] at hc
        generalize cuts.getD 0 0 = x at hc
        go_wp2
        go_roundw
        case rel => exact ⟨1, by omega, rfl, fun j hj => by omega, by trivial⟩
        case measure => simp [intOf]; omega
      | succ q =>
        obtain ⟨gc2, off2, hp2, hg2, hc2⟩ := HC2.out.one (k := q) (by omega)
        cases hp2
        have hwp : IntKind.i64.wrap (q : Int) = (q : Int) := by rw [IntKind.wrap_i64]; omega
        by_cases hle : cuts.getD (q + 1) 0 ≤ cuts.getD q 0
        · have hres := hist_rise (f := f) (K := K) (cuts := cuts) (fun h => by have := h q (by have := HN.out; omega); omega)
          have HRES := Lib.hid hres
          clear hres
          generalize cuts.getD (q + 1) 0 = x at *
          generalize cuts.getD q 0 = y at *
          go_wp2
          go_ret2
          refine ⟨.slice none 0 0, ?_, ?_, hE2⟩
          · rw [HRES.out]; rfl
          · rw [HRES.out]; exact ⟨rfl, .inl ⟨rfl, rfl⟩⟩
        · have hri2 : Rise cuts (q + 1 + 1) := fun j hj => by
            by_cases e : j = q
            · subst e; omega
            · exact HRI.out j (by omega)
          have HRI2 := Lib.hid hri2
          clear hri2
          generalize cuts.getD (q + 1) 0 = x at *
          generalize cuts.getD q 0 = y at *
          go_wp2
          go_roundw
          case rel => exact ⟨q + 1 + 1, by omega, by go_num, HRI2.out, by trivial⟩
          case measure => simp [intOf]; omega
    · obtain rfl : n = k := by omega
      have hrise : Rise cuts cuts.length := by rw [HN.out]; exact HRI.out
      have HRISE := Lib.hid hrise
      clear hrise
      go_wp2_with fail
      go_loopw [9, 10, 37] (fun u9 u10 u37 wr => ∃ (k : Nat) (a : Int) (pre : List (Int × Int)), k ≤ n ∧ u37 = .int .i64 k ∧ u10 = .int .u64 a ∧ 0 ≤ a ∧ a < K ∧ (∀ c ∈ cuts.take k, 1 ≤ c ∧ c < K) ∧ pre.length = k ∧ spansL K 0 cuts = pre ++ spansL K a (cuts.drop k) ∧ (∀ x ∈ pre, U64 x.1 ∧ U64 x.2) ∧ wr.ownsRow w2.heap.size 209 2 u9 k (spV pre) ∧ Ext w2 wr) (fun _ _ u37 _ => n - (intOf u37).toNat)
      case atStart => exact ⟨0, 0, [], Nat.zero_le _, rfl, rfl, by omega, by omega, by simp, rfl, rfl, by simp, ⟨rfl, .inl ⟨rfl, rfl⟩⟩, Ext.refl _⟩
      case round =>
        obtain ⟨k, a, pre, hk, rfl, rfl, ha0, ha1, hin, hpl, hsp, hpu, hown, hE⟩ := hrel
        obtain ⟨po, co, rfl⟩ := own_sl hown
        have HO := Lib.hid hown
        have HIN := Lib.hid hin
        have HSP := Lib.hid hsp
        have HPL := Lib.hid hpl
        have HPU := Lib.hid hpu
        have hEw := hE2.trans' hE
        clear hown hin hsp hpl hpu
        by_cases hlt : k < n
        · have hkl : k < cuts.length := by rw [HN.out]; exact hlt
          obtain ⟨gc, off, hp2, hg, hc⟩ := (HC2.out.ext hE).one hlt
          subst hp2
          have hmem : cuts.getD k 0 ∈ cuts := by simp [List.getD, hkl]
          have hcu := HUC.out _ hmem
          have hts : cuts.take (k + 1) = cuts.take k ++ [cuts.getD k 0] := by rw [List.take_add_one, List.getElem?_eq_getElem hkl]; simp [List.getD, hkl]
          have hdr := drop_getD hkl
          have HTS := Lib.hid hts
          have HDR := Lib.hid hdr
          have HMEM := Lib.hid hmem
          clear hts hdr hmem
          generalize cuts.getD k 0 = c at *
          obtain ⟨hc0, hc1⟩ := hcu
          by_cases hz : c = 0
          · have hres := hist_key (f := f) (K := K) HRISE.out (fun h => by have := h c HMEM.out; omega)
            have HRES := Lib.hid hres
            clear hres
            subst hz
            go_wp2
            go_ret2
            refine ⟨.slice none 0 0, ?_, ?_, hEw⟩
            · rw [HRES.out]; rfl
            · rw [HRES.out]; exact ⟨rfl, .inl ⟨rfl, rfl⟩⟩
          · have hz0 : (c == 0) = false := beq_eq_false_iff_ne.2 hz
            by_cases hKc : K ≤ c
            · have hres := hist_key (f := f) (K := K) HRISE.out (fun h => by have := h c HMEM.out; omega)
              have HRES := Lib.hid hres
              clear hres
              go_wp2
              go_ret2
              refine ⟨.slice none 0 0, ?_, ?_, hEw⟩
              · rw [HRES.out]; rfl
              · rw [HRES.out]; exact ⟨rfl, .inl ⟨rfl, rfl⟩⟩
            · have hsz := hE.size
              have hwp : IntKind.u64.wrap (c - 1) = c - 1 := by rw [IntKind.wrap_u64]; omega
              go_wp2_with (at_builtin; refine wpList_appK wr 2 16 1 (by decide) (by decide) [.int .u64 a, .int .u64 (c - 1)] rfl (by simp [Value.oneCell']) _ k _ w2.heap.size 209 _ HO.out 208 rfl _ _ rfl info_2u Tryz.underlying208 _ rfl (by rfl) (by rfl) (by omega) hsz ?_)
              intro v' w3 g1 g2 _
              have hE3 : Ext w2 w3 := ext_grown hE g2 (fun j hj => own_geB HO.out hj)
              obtain ⟨po3, co3, rfl⟩ := own_sl g1
              have G1 := Lib.hid g1
              clear g1 g2 hc
              go_wp2
              go_roundw
              case rel =>
                refine ⟨k + 1, c, pre ++ [(a, c - 1)], by omega, by go_num, rfl, by omega, by omega, ?_, by rw [List.length_append, HPL.out]; rfl, spans_step (by rw [← HDR.out]; exact HSP.out), ?_, by rw [spV_append]; exact G1.out, hE3⟩
                · intro x hx
                  rw [HTS.out] at hx
                  rcases List.mem_append.1 hx with hx | hx
                  · exact HIN.out x hx
                  · rw [List.mem_singleton.1 hx]; omega
                · intro x hx
                  rcases List.mem_append.1 hx with hx | hx
                  · exact HPU.out x hx
                  · rw [List.mem_singleton.1 hx]; unfold U64; dsimp only; omega
              case measure => simp [intOf]; omega
        · obtain rfl : n = k := by omega
          have htk : cuts.take n = cuts := List.take_of_length_le (by rw [HN.out]; exact Nat.le_refl _)
          have hinn : Inner K cuts := fun c hc => HIN.out c (by rw [htk]; exact hc)
          have hres := hist_ok (f := f) HRISE.out hinn
          have hsp2 : spansL K 0 cuts = pre ++ [(a, K - 1)] := by
            rw [HSP.out, List.drop_of_length_le (by rw [HN.out]; exact Nat.le_refl _)]; rfl
          rw [hsp2] at hres
          have HRES := Lib.hid hres
          clear htk hinn hres hsp2
          have hsz := hE.size
          have hwp : IntKind.u64.wrap (K - 1) = K - 1 := by rw [IntKind.wrap_u64]; omega
          go_wp2_with (at_builtin; go_loud (refine wpList_appK wr 2 16 1 (by decide) (by decide) [.int .u64 a, .int .u64 (K - 1)] rfl (by simp [Value.oneCell']) _ n _ w2.heap.size 209 _ HO.out 208 rfl _ _ rfl info_2u Tryz.underlying208 _ rfl (by rfl) (by rfl) (by omega) hsz ?_))
          intro v' w3 g1 g2 _
          have hE3 : Ext w2 w3 := ext_grown hE g2 (fun j hj => own_geB HO.out hj)
          obtain ⟨po3, co3, rfl⟩ := own_sl g1
          have hb3 := hE3.keep HBX2.out
          have hpl2 : (pre ++ [(a, K - 1)]).length = n + 1 := by rw [List.length_append, HPL.out]; rfl
          have hE03 := hE2.trans' hE3
          have hea := EachS_c w.heap.size f (pre ++ [(a, K - 1)]) w2.heap.size po3 co3 w3 (by rw [hpl2, spV_append]; exact g1) (by omega) (fun x hx W' hE' => by
            have hxu : U64 x.1 ∧ U64 x.2 := by
              rcases List.mem_append.1 hx with hx | hx
              · exact HPU.out x hx
              · rw [List.mem_singleton.1 hx]; unfold U64; dsimp only; omega
            have hb4 := hE'.keep hb3
            exact Ask2_c s w.heap.size f x.1 x.2 W' ((cell_of hb4 0).trans rfl) (lt_of hb4) (fun W'' hE'' => HQ.out x.1 x.2 hxu.1 hxu.2 W'' ((hE03.trans' hE').trans' hE'')))
          rw [hpl2] at hea
          have HEA := Lib.hid hea
          clear g1 g2 hea hpl2 hb3
          go_wp2_with fail
          refine Calls.mono HEA.out ?_
          rintro e w4 ⟨v, rfl, ho, hx4⟩
          have hE4 := hE03.trans' hx4
          have HO4 := Lib.hid (own_bmono ho hE03.size)
          clear ho hx4
          go_wp2
          go_ret2
          refine ⟨v, ?_, ?_, hE4⟩
          · rw [HRES.out]; rfl
          · rw [HRES.out]; exact HO4.out
end Go.Proofs.YtfhdjekpdifajaaGreat
namespace Go.Proofs.YtfhdjekpdifajaaGreat
set_option linter.unusedVariables false
open Go.RowKit
/-- A piece that was found: its level, its number, and what is told of it. -/
abbrev Fd := Nat × Int × Int
def fdV (fs : List Fd) : List Value := fs.flatMap fun f => [.int .i64 (f.1 : Int), .int .u64 f.2.1, .int .i64 f.2.2]
theorem fdV_append (a b : List Fd) : fdV (a ++ b) = fdV a ++ fdV b := by unfold fdV; rw [List.flatMap_append]
theorem fdV_at {fs : List Fd} : ∀ {k : Nat} (h : k < fs.length), (fdV fs)[k * 3]? = some (.int .i64 ((fs.getD k (0, 0, 0)).1 : Int)) ∧ (fdV fs)[k * 3 + 1]? = some (.int .u64 (fs.getD k (0, 0, 0)).2.1) ∧ (fdV fs)[k * 3 + 2]? = some (.int .i64 (fs.getD k (0, 0, 0)).2.2) := by
  induction fs with
  | nil => intro k h; simp at h
  | cons u fs ih =>
    intro k h
    have e : fdV (u :: fs) = .int .i64 (u.1 : Int) :: .int .u64 u.2.1 :: .int .i64 u.2.2 :: fdV fs := rfl
    rw [e]
    cases k with
    | zero => exact ⟨rfl, rfl, rfl⟩
    | succ k =>
      have := ih (k := k) (by simpa using h)
      rw [show (k + 1) * 3 = k * 3 + 1 + 1 + 1 by omega]
      simp only [List.getElem?_cons_succ, List.getD_cons_succ]
      exact this
/-- A row of pieces of one level. -/
def lvl (n : Nat) (row : List Int) : List (Nat × Int) := row.map fun i => (n, i)
def hvF (pt : Nat → Int → Int) (least : Int) (n : Nat) (row : List Int) : List Fd := (row.filter fun i => decide (least ≤ pt n i)).map fun i => (n, i, pt n i)
def hvN (pt : Nat → Int → Int) (least : Int) (n : Nat) (row : List Int) : List Int := if n = 0 then [] else (row.filter fun i => decide (least ≤ pt n i)).flatMap fun i => [2 * i, 2 * i + 1]
/-- As many levels are left; how many were asked; what is to be asked; what was found. -/
def hvGo (pt : Nat → Int → Int) (least budget : Int) : Nat → Int → List Int → List Fd → Option (List Fd)
  | 0, _, _, out => some out
  | n + 1, asked, row, out => if budget < asked + row.length then none else hvGo pt least budget n (asked + row.length) (hvN pt least n row) (out ++ hvF pt least n row)
def heavyP (pt : Nat → Int → Int) (least budget : Int) (B : Nat) : List Fd × Int :=
  if least < 1 ∨ 4096 < budget then ([], 1) else
  match hvGo pt least budget (B + 1) 0 [0] [] with
  | none => ([], 7)
  | some l => (l, 0)
theorem hvF_snoc_yes {pt : Nat → Int → Int} {least : Int} {n : Nat} {row : List Int} {i : Int} (h : least ≤ pt n i) : hvF pt least n (row ++ [i]) = hvF pt least n row ++ [(n, i, pt n i)] := by
  unfold hvF; rw [List.filter_append, List.map_append]; simp [h]
theorem hvF_snoc_no {pt : Nat → Int → Int} {least : Int} {n : Nat} {row : List Int} {i : Int} (h : pt n i < least) : hvF pt least n (row ++ [i]) = hvF pt least n row := by
  unfold hvF; rw [List.filter_append, List.map_append]; simp; omega
theorem hvN_snoc_yes {pt : Nat → Int → Int} {least : Int} {n : Nat} {row : List Int} {i : Int} (h : least ≤ pt (n + 1) i) : hvN pt least (n + 1) (row ++ [i]) = hvN pt least (n + 1) row ++ [2 * i, 2 * i + 1] := by
  unfold hvN; rw [if_neg (by omega), if_neg (by omega), List.filter_append, List.flatMap_append]; simp [h]
theorem hvN_snoc_no {pt : Nat → Int → Int} {least : Int} {n : Nat} {row : List Int} {i : Int} (h : pt n i < least) : hvN pt least n (row ++ [i]) = hvN pt least n row := by
  unfold hvN
  by_cases h0 : n = 0
  · rw [if_pos h0, if_pos h0]
  · rw [if_neg h0, if_neg h0, List.filter_append, List.flatMap_append]; simp; omega
theorem hvF_len (pt : Nat → Int → Int) (least : Int) (n : Nat) (row : List Int) : (hvF pt least n row).length ≤ row.length := by
  unfold hvF; rw [List.length_map]; exact List.length_filter_le _ _
theorem hvN_len (pt : Nat → Int → Int) (least : Int) (n : Nat) (row : List Int) : (hvN pt least n row).length ≤ 2 * row.length := by
  unfold hvN
  split
  · simp
  · have h := List.length_filter_le (fun i => decide (least ≤ pt n i)) row
    have h2 : ∀ l : List Int, (l.flatMap fun i => [2 * i, 2 * i + 1]).length = 2 * l.length := by
      intro l
      induction l with
      | nil => rfl
      | cons a l ih => rw [List.flatMap_cons, List.length_append, ih]; simp; omega
    rw [h2]; omega
theorem hvN_mem {pt : Nat → Int → Int} {least : Int} {n : Nat} {row : List Int} {j : Int} (h : j ∈ hvN pt least (n + 1) row) : ∃ i ∈ row, least ≤ pt (n + 1) i ∧ (j = 2 * i ∨ j = 2 * i + 1) := by
  unfold hvN at h
  rw [if_neg (by omega), List.mem_flatMap] at h
  obtain ⟨i, hi, hj⟩ := h
  rw [List.mem_filter] at hi
  exact ⟨i, hi.1, by simpa using hi.2, by simpa using hj⟩
theorem lvl_len (n : Nat) (row : List Int) : (lvl n row).length = row.length := by unfold lvl; rw [List.length_map]
theorem pcV_lvl_append (n : Nat) (a b : List Int) : pcV (lvl n (a ++ b)) = pcV (lvl n a) ++ pcV (lvl n b) := by
  unfold pcV lvl; rw [List.map_append, List.flatMap_append]
theorem pcV_lvl {n : Nat} {row : List Int} {k : Nat} (h : k < row.length) : (pcV (lvl n row))[k * 2]? = some (.int .i64 n) ∧ (pcV (lvl n row))[k * 2 + 1]? = some (.int .u64 row[k]) := by
  have h1 := pcV_at (ps := lvl n row) (k := k) (by rw [lvl_len]; exact h)
  have h2 : (lvl n row).getD k (0, 0) = (n, row[k]) := by unfold lvl; simp [List.getD, h]
  rw [h2] at h1
  exact h1
theorem take_snocH {row : List Int} {k : Nat} (h : k < row.length) : row.take (k + 1) = row.take k ++ [row[k]] := by
  rw [List.take_add_one, List.getElem?_eq_getElem h]; rfl
end Go.Proofs.YtfhdjekpdifajaaGreat
namespace Go.Proofs.YtfhdjekpdifajaaGreat
set_option linter.unusedVariables false
open Go.RowKit
set_option maxRecDepth 20000 in
set_option maxHeartbeats 2000000 in
theorem Halves_0 (C : Cfg) (h : C.Ok) (j : Int) (hj0 : 0 ≤ j) (hj1 : j < keys C (0 : Nat)) (w : World) :
    Calls Tryz.prog 145 #[.int .i64 C.bits, .agg #[.int .i64 0, .int .u64 j]] w fun e w' => e = .returned (.tuple #[.agg #[.int .i64 0, .int .u64 0], .agg #[.int .i64 0, .int .u64 0], .bool false]) ∧ Ext w w' := by
  have b1 := h.b1
  have b2 := h.b2
  go_enter Tryz.func145, Tryz.ntmps145
  go_wp2_with fail
  refine (is_c C h 0 (by omega) j hj0 hj1 _).mono ?_
  rintro e w1 ⟨rfl, hb⟩
  have hE : Ext w w1 := by (repeat' (first | exact Ext.refl _ | assumption | apply Ext.allocR | apply Ext.drewR | apply Ext.drewNR | (refine Ext.trans' ?_ (by assumption))))
  have hbx : w1.heap[w.heap.size]? = some (.cells #[.int .i64 0, .int .u64 j] 39 (0, 0)) := by
    rw [hb.block _ (by simp only [size_alloc]; omega), heap_old _ _ (by simp only [size_alloc]; omega), heap_old _ _ (by rw [size_alloc]; omega)]
    exact heap_at _ _ rfl
  have hbl : w1.heap[w.heap.size + 1]? = some (.cells #[.int .i64 0, .int .u64 0] 39 (0, 0)) := by
    rw [hb.block _ (by simp only [size_alloc]; omega), heap_old _ _ (by simp only [size_alloc]; omega)]
    exact heap_at _ _ (by rw [size_alloc])
  have hbr : w1.heap[w.heap.size + 2]? = some (.cells #[.int .i64 0, .int .u64 0] 39 (0, 0)) := by
    rw [hb.block _ (by simp only [size_alloc]; omega)]
    exact heap_at _ _ (by simp only [size_alloc])
  have c0 := (cell_of hbx 0).trans rfl
  have c1 := (cell_of hbx 1).trans rfl
  have cl := lt_of hbx
  have l0 := (cell_of hbl 0).trans rfl
  have l1 := (cell_of hbl 1).trans rfl
  have ll := lt_of hbl
  have r0 := (cell_of hbr 0).trans rfl
  have r1 := (cell_of hbr 1).trans rfl
  have rl := lt_of hbr
  have fl0 := frozen_of hbl 0
  have fl1 := frozen_of hbl 1
  have fr0 := frozen_of hbr 0
  have fr1 := frozen_of hbr 1
  clear hb
  go_wp2
  have hEf : Ext w ((((w1.setCell ⟨w.heap.size + 1, 0, none⟩ (.int .i64 0)).setCell ⟨w.heap.size + 1, 1, none⟩ (.int .u64 0)).setCell ⟨w.heap.size + 1 + 1, 0, none⟩ (.int .i64 0)).setCell ⟨w.heap.size + 1 + 1, 1, none⟩ (.int .u64 0)) :=
    (((hE.setR (p := ⟨w.heap.size + 1, 0, none⟩) (by show w.heap.size ≤ w.heap.size + 1; omega) _).setR (p := ⟨w.heap.size + 1, 1, none⟩) (by show w.heap.size ≤ w.heap.size + 1; omega) _).setR (p := ⟨w.heap.size + 1 + 1, 0, none⟩) (by show w.heap.size ≤ w.heap.size + 1 + 1; omega) _).setR (p := ⟨w.heap.size + 1 + 1, 1, none⟩) (by show w.heap.size ≤ w.heap.size + 1 + 1; omega) _
  have e1 : ((((w1.setCell ⟨w.heap.size + 1, 0, none⟩ (.int .i64 0)).setCell ⟨w.heap.size + 1, 1, none⟩ (.int .u64 0)).setCell ⟨w.heap.size + 1 + 1, 0, none⟩ (.int .i64 0)).setCell ⟨w.heap.size + 1 + 1, 1, none⟩ (.int .u64 0)).heap[w.heap.size + 1]? = some (.cells #[.int .i64 0, .int .u64 0] 39 (0, 0)) := by
    rw [setCell_other _ _ (by omega), setCell_other _ _ (by omega)]
    exact set2 hbl _ _
  have e2 : ((((w1.setCell ⟨w.heap.size + 1, 0, none⟩ (.int .i64 0)).setCell ⟨w.heap.size + 1, 1, none⟩ (.int .u64 0)).setCell ⟨w.heap.size + 1 + 1, 0, none⟩ (.int .i64 0)).setCell ⟨w.heap.size + 1 + 1, 1, none⟩ (.int .u64 0)).heap[w.heap.size + 1 + 1]? = some (.cells #[.int .i64 0, .int .u64 0] 39 (0, 0)) :=
    set2 (by rw [setCell_other _ _ (by omega), setCell_other _ _ (by omega)]; exact hbr) _ _
  generalize (((w1.setCell ⟨w.heap.size + 1, 0, none⟩ (.int .i64 0)).setCell ⟨w.heap.size + 1, 1, none⟩ (.int .u64 0)).setCell ⟨w.heap.size + 1 + 1, 0, none⟩ (.int .i64 0)).setCell ⟨w.heap.size + 1 + 1, 1, none⟩ (.int .u64 0) = Wf at *
  have r0 := (cell_of e1 0).trans rfl
  have r1 := (cell_of e1 1).trans rfl
  have r2 := (cell_of e2 0).trans rfl
  have r3 := (cell_of e2 1).trans rfl
  exact bodyPost_ret (v := .tuple #[.agg #[.int .i64 0, .int .u64 0], .agg #[.int .i64 0, .int .u64 0], .bool false]) (by simp [results, Tryz.results145, go_sem, r0, r1, r2, r3]) rfl ⟨rfl, hEf⟩
/-- At any level: whether there are halves, and which. -/
theorem HalvesAny_c (C : Cfg) (h : C.Ok) (n : Nat) (hn : (n : Int) ≤ C.bits) (j : Int) (hj0 : 0 ≤ j) (hj1 : j < keys C n) (w : World) :
    Calls Tryz.prog 145 #[.int .i64 C.bits, .agg #[.int .i64 n, .int .u64 j]] w fun e w' => ∃ x u v : Int, e = .returned (.tuple #[.agg #[.int .i64 x, .int .u64 u], .agg #[.int .i64 x, .int .u64 v], .bool (decide (0 < n))]) ∧ (∀ m : Nat, n = m + 1 → x = m ∧ u = 2 * j ∧ v = 2 * j + 1) ∧ Ext w w' := by
  match n, hn, hj1 with
  | 0, hn, hj1 =>
    refine (Halves_0 C h j hj0 hj1 w).mono ?_
    rintro e w' ⟨rfl, hE⟩
    exact ⟨0, 0, 0, rfl, fun m hm => by omega, hE⟩
  | m + 1, hn, hj1 =>
    refine (Halves_c C h m hn j hj0 hj1 w).mono ?_
    rintro e w' ⟨rfl, hE⟩
    refine ⟨m, 2 * j, 2 * j + 1, by simp, fun m' hm => ?_, hE⟩
    obtain rfl : m = m' := by omega
    exact ⟨rfl, rfl, rfl⟩
end Go.Proofs.YtfhdjekpdifajaaGreat
