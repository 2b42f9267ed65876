/- Part. No condition. -/
import Derived.Test.YtfhdjekpdifajaaDSpanSums3
import Derived.Test.YtfhdjekpdifajaaDSpanSums4
import Derived.Test.YtfhdjekpdifajaaDSpanSums5
import Derived.Laws.EntriesVeiled
import Derived.ProofKit
import Derived.OpenShut
import Derived.ChangeOld
import Derived.Below
import Derived.SizedLaws
import Derived.Deep.Slices
import Derived.Deep.Fields
namespace Go.Proofs.Ytfhdjekpdifajaa
set_option linter.unusedVariables false
open Go.RowKit
attribute [local go_sem] Oper.semAt_some
/-- What Point tells is one number. -/
def Uniq (C : Cfg) (B : Nat) (ls : Nat → List Int) (pt : Nat → Int → Int) : Prop := ∀ (n : Nat) (i x : Int), n ≤ B → 0 ≤ i → i < keys C n → lvPt C n (ls n) i x → x = pt n i
def cvV (pt : Nat → Int → Int) (B : Nat) (lo hi : Int) : List Int := (covL B 0 lo hi).map fun p => pt p.1 p.2
def PartsPost (w : World) (B : Nat) (pt : Nat → Int → Int) (lo hi : Int) (e : Ending) (w' : World) : Prop :=
  (hi < lo ∧ e = .returned (.tuple #[.slice none 0 0, .int .i64 1]) ∧ Ext w w') ∨
  ((lo ≤ hi ∧ 2 ^ B ≤ hi) ∧ e = .returned (.tuple #[.slice none 0 0, .int .i64 2]) ∧ Ext w w') ∨
  ((lo ≤ hi ∧ hi < 2 ^ B) ∧ ∃ v, e = .returned (.tuple #[v, .int .i64 0]) ∧ w'.ownsRow w.heap.size 2 1 v (cvV pt B lo hi).length (ints (cvV pt B lo hi)) ∧ Ext w w')
set_option maxRecDepth 20000 in
set_option maxHeartbeats 1000000 in
/-- The closure that asks for a piece. -/
theorem PartsAsk_c (s g : Nat) (C : Cfg) (B : Nat) (L : Nat → Lev) (ls : Nat → List Int) (pt : Nat → Int → Int) (hU : Uniq C B ls pt) (b : Nat) (n : Nat) (i : Int) (hn : n ≤ B) (h0 : 0 ≤ i) (h1 : i < keys C n) (w : World) (h : KAt w s g C B L ls)
    (hb : w.cell? ⟨b, 0, none⟩ = some (.pointer (some ⟨s, 0, none⟩))) (hbl : b < w.heap.size) :
    Calls Try.prog 20 #[.agg #[.int .i64 n, .int .u64 i], .pointer (some ⟨b, 0, none⟩)] w fun e w' => e = .returned (.int .i64 (pt n i)) ∧ Ext w w' := by
  have HH := Lib.hid h
  clear h
  go_enter Try.func20, Try.ntmps20
  go_wp2_with fail
  refine Calls.mono (KPoint_c s g C B L ls _ (HH.out.ext (Ext.alloc' _ _)) n hn i h0 h1) ?_
  rintro e w1 ⟨x, rfl, hx, hx1⟩
  have hE : Ext w w1 := (Ext.alloc' _ _).trans' hx1
  obtain rfl := hU n i x hn h0 h1 hx
  go_wp2
  go_ret
  exact ⟨rfl, hE⟩
set_option maxRecDepth 100000 in
set_option maxHeartbeats 4000000 in
theorem Parts_c (s g : Nat) (C : Cfg) (B : Nat) (L : Nat → Lev) (ls : Nat → List Int) (w : World) (h : KAt w s g C B L ls) (pt : Nat → Int → Int) (hU : Uniq C B ls pt) (lo hi : Int) (hlo : U64 lo) (hhi : U64 hi) :
    Calls Try.prog 7 #[.pointer (some ⟨s, 0, none⟩), .int .u64 lo, .int .u64 hi] w (PartsPost w B pt lo hi) := by
  have hmf : ∀ (fn : Fn) (first cap : Array Value) (w : World), (Instr.makeFunc fn first cap).run Try.prog w = .ok (.func fn first cap) w := fun _ _ _ _ => rfl
  have hok := h.ok
  have hB := h.hB
  have hb1 := hok.b1
  have hb2 := hok.b2
  have hls := h.lts
  have HH := Lib.hid h
  have hkk : ∀ n : Nat, n ≤ B → keys C n = 2 ^ (B - n) := fun n hn => by unfold keys; rw [hB]; congr 1; omega
  have HB := Lib.hid hB
  have HK := Lib.hid hkk
  clear h hkk
  refine (callsIn_wide (n := 5)).1 ?_
  refine callsIn_of_wp_marks Try.func7 rfl trivial ?_ rfl
  simp only [Try.ntmps7, List.size_toArray, List.length_cons, List.length_nil, Nat.reduceAdd, Nat.reduceSub, Array.replicate_succ, Array.replicate_zero, List.push_toArray, List.append_toArray, List.nil_append, List.cons_append]
  by_cases hlt : hi < lo
  · gi_wp2_with fail
    exact ⟨_, results_tmp2 rfl _ _ _, .inl ⟨hlt, rfl, Ext.alloc' _ _⟩⟩
  · gi_wp2_with fail
    refine ⟨trivial, (callsIn_wide.2 (SKConfig_c s g C B L ls _ (HH.out.ext (Ext.alloc' _ _)))).mono ?_⟩
    rintro e w1 ⟨rfl, hx1⟩
    have hE1 : Ext w w1 := (Ext.alloc' _ _).trans' hx1
    have hp1 := hx1.keep (heap_at w (.cells #[.pointer (some ⟨s, 0, none⟩)] 29) rfl)
    clear hx1
    rw [HB.out]
    gi_wp2_with fail
    refine ⟨trivial, (callsIn_wide.2 (Cover_c B (by omega) (by omega) lo hi hlo hhi _)).mono ?_⟩
    rintro e w2 (⟨hc, rfl, hx2⟩ | ⟨hc, v, rfl, ho, hx2⟩)
    · gi_wp2_with fail
      exact ⟨_, results_tmp2 rfl _ _ _, .inr (.inl ⟨by omega, rfl, hE1.trans' hx2⟩)⟩
    · have hE2 := hE1.trans' hx2
      have hp2 := hx2.keep hp1
      obtain ⟨pv, cv, rfl⟩ := own_sl ho
      have hsz2 := hE2.size
      have HO := Lib.hid ho
      clear ho hx2 hE1 hp1
      gi_wp2_with fail
      refine ⟨trivial, (callsIn_wide.2 (Values_c pv _ cv _)).mono ?_⟩
      rintro e w3 ⟨rfl, rfl⟩
      gi_wp2_with fail
      obtain ⟨W0, hW0⟩ : ∃ W0, ((w2.alloc (.cells #[.func (.func 20) #[] #[.pointer (some ⟨w.heap.size, 0, none⟩)]] 58)).alloc (.cells #[.slice none 0 0] 35)).alloc (.cells #[.slice pv (covL B 0 lo hi).length cv] 32) = W0 := ⟨_, rfl⟩
      have hsz0 : W0.heap.size = w2.heap.size + 3 := by rw [← hW0]; simp
      have hx0 : Ext w2 W0 := by rw [← hW0]; exact ((Ext.alloc' _ _).allocR _).allocR _
      have b0 : Boxed W0 w2.heap.size 58 (.func (.func 20) #[] #[.pointer (some ⟨w.heap.size, 0, none⟩)]) := by rw [← hW0]; exact ((Boxed.new w2 _ _).alloc _).alloc _
      have b1 : Boxed W0 (w2.heap.size + 1) 35 (.slice none 0 0) := by
        have := (Boxed.new (w2.alloc (.cells #[.func (.func 20) #[] #[.pointer (some ⟨w.heap.size, 0, none⟩)]] 58)) 35 (.slice none 0 0)).alloc (.cells #[.slice pv (covL B 0 lo hi).length cv] 32)
        rw [World.size_alloc] at this
        rw [← hW0]; exact this
      have b2 : W0.cell? ⟨w2.heap.size + 1 + 1, 0, none⟩ = some (.slice pv (covL B 0 lo hi).length cv) := by
        rw [← hW0]
        exact (cell_of (heap_at _ _ (by simp)) 0).trans rfl
      rw [hW0]
      clear hW0
      have hpcs : PcsAt w2.heap.size W0 (.slice pv (covL B 0 lo hi).length cv) (covL B 0 lo hi) := (PcsAt.of_own HO.out (Nat.le_refl _)).below hx0
      have hbd := cov_bd B 0 lo hi hlo.1 hc.1 hc.2
      have hlv := cov_lev B 0 lo hi
      have hlen := cov_len B 0 lo hi
      have HBD := Lib.hid hbd
      have HLV := Lib.hid hlv
      have HLEN := Lib.hid hlen
      have HC := Lib.hid hc
      clear hbd hlv hc hlen
      refine wpIn_rangeFunc_ownH rfl (by decide) (gf := 36) (lb := #[.pointer (some ⟨w2.heap.size + 1 + 1, 0, none⟩)]) rfl trivial (enters_of Try.func36 (by kernel_rfl) rfl)
        (values_stops 4 (w2.heap.size + 1 + 1) w2.heap.size _ (covL B 0 lo hi) (by have := HLEN.out; omega) W0 (by omega) (by omega) b2 hpcs) belowK_t (belowK_b (by omega)) (Below.refl _ _) (fun _ => rfl)
        (fun pre W => ((∃ v, Boxed W (w2.heap.size + 1) 35 v ∧ W.ownsRow w2.heap.size 2 1 v (pre.map (fun x => pt x.1.1 x.1.2)).length (ints (pre.map (fun x => pt x.1.1 x.1.2))) ∧ True) ∧ Boxed W w2.heap.size 58 (.func (.func 20) #[] #[.pointer (some ⟨w.heap.size, 0, none⟩)])) ∧ Below w2.heap.size w2 W)
        (fun _ _ _ => False)
        (OwnFrom.and (OwnFrom.and (Own.from (holdsRow_own w2.heap.size (w2.heap.size + 1) 35 2 1 (fun pre : List {p : Nat × Int // p ∈ covL B 0 lo hi} => (pre.map (fun x => pt x.1.1 x.1.2)).length) (fun pre => ints (pre.map (fun x => pt x.1.1 x.1.2))) (fun _ _ => True)) _) (Own.from (boxed_own _ _ _) _)) (ownFrom_below (Nat.le_refl _) (by omega)))
        (fun _ _ _ _ _ hs _ _ => hs)
        ⟨⟨⟨_, b1, ⟨rfl, .inl ⟨rfl, rfl⟩⟩, trivial⟩, b0⟩, hx0⟩
        (fun x a' W => ∃ Bx, w2.heap.size + 1 < Bx ∧ W.heap[Bx]? = some (.cells #[.int .i64 (x.1.1 : Int), .int .u64 x.1.2] 41 (0, 0)) ∧ a' = { tmps := #[.pointer (some ⟨s, 0, none⟩), .int .u64 lo, .int .u64 hi, .pointer (some ⟨w.heap.size, 0, none⟩), undef, undef, .slice none 0 0, .int .i64 0, .slice pv (covL B 0 lo hi).length cv, .bool true, .pointer (some ⟨w2.heap.size, 0, none⟩), .pointer (some ⟨w2.heap.size + 1, 0, none⟩), .pointer (some ⟨Bx, 0, none⟩), .int .u64 lo, .int .u64 hi, .bool false, .tuple #[.slice pv (covL B 0 lo hi).length cv, .bool true], .pointer (some ⟨s, 0, none⟩), .agg #[.int .i64 B, .int .i64 C.rows, .int .i64 C.width, .int .i64 C.mode, .int .u64 C.seed], .int .i64 B, .int .u64 lo, .int .u64 hi, .tuple #[.slice pv (covL B 0 lo hi).length cv, .bool true], .slice pv (covL B 0 lo hi).length cv, .bool true, .bool true, .bool false, .func (.func 20) #[] #[.pointer (some ⟨w.heap.size, 0, none⟩)], .slice pv (covL B 0 lo hi).length cv, .func (.func 36) #[] #[.pointer (some ⟨w2.heap.size + 1 + 1, 0, none⟩)], .agg #[.int .i64 (x.1.1 : Int), .int .u64 x.1.2], undef, undef, undef, undef, undef, undef, undef], defers := [] })
        (fun x a' _ X Y row hs hg hr => by
          obtain ⟨Bx, h1, h2, h3⟩ := hs
          refine ⟨Bx, h1, (hg.block Bx (lt_of h2) (fun e => ?_)).trans h2, h3⟩
          obtain ⟨_, o, ho, hc⟩ := hr Bx e.symm
          rw [h2] at ho; cases ho; cases hc)
        ?assign ?body ?done ?stop
      case assign =>
        rintro l pre x W K ⟨⟨⟨v, hv, hrow, _⟩, hf⟩, hB1⟩ hK
        have := hB1.size
        have := hv.lt
        dsimp only [pcEnc]
        gi_wp2
        exact hK _ _ ((KeepsOthers.alloc _ _).from _) ((Below.refl _ W).alloc hB1.size _) ⟨⟨⟨v, hv.alloc _, hrow.alloc _, trivial⟩, hf.alloc _⟩, hB1.alloc hB1.size _⟩ ⟨W.heap.size, hv.lt, heap_at _ _ rfl, rfl⟩
      case body =>
        rintro l pre x a' W hl _ ⟨⟨⟨v, hv, hrow, _⟩, hf⟩, hB1⟩ ⟨Bx, hBx, hx, rfl⟩ hlen
        have hlv := HLV.out x.1 x.2
        have hbd := HBD.out x.1 x.2
        have hlv2 : x.1.1 ≤ B := by omega
        have hlt2 : x.1.2 < keys C x.1.1 := by rw [HK.out _ hlv2]; rw [Nat.zero_add] at hbd; exact hbd.2
        have hK1 := (HH.out.ext hE2).ext hB1
        have hE4 : Ext w2 W := hB1
        have hp3 := hE4.keep hp2
        have hpl := lt_of hp3
        have hpc := (cell_of hp3 0).trans rfl
        have hvl := hv.lt
        have hvc := hv.cell
        have hfl := hf.lt
        have hfc := hf.cell
        have hxl := lt_of hx
        have x0 := (cell_of hx 0).trans rfl
        have x1 := (cell_of hx 1).trans rfl
        have hsW := hB1.size
        obtain ⟨pw, nw, cw, hvw⟩ : ∃ p n c, v = .slice p n c := by obtain ⟨p, c, h⟩ := own_sl hrow; exact ⟨p, _, c, h⟩
        subst hvw
        obtain ⟨S, hS⟩ : ∃ S : Nat → Prop, S = fun k => (Value.slice pw nw cw).ownBlock = some k := ⟨_, rfl⟩
        have nS1 : ¬ S (w2.heap.size + 1) := by rw [hS]; exact fun e => hv.not_row (by decide) hrow e.symm
        have nS0 : ¬ S w2.heap.size := by rw [hS]; exact fun e => hf.not_row (by decide) hrow e.symm
        have nSx : ¬ S Bx := by rw [hS]; exact own_notB hrow hx (by decide)
        have HS := Lib.hid hS
        clear hS
        have HV := Lib.hid hv
        have HF := Lib.hid hf
        have HR := Lib.hid hrow
        have HX := Lib.hid hx
        clear hv hf hrow hx hp3
        gi_wp2
        refine pi_startR (fun w' => ∃ x : AftS S W, w' = x.w) [6] (by kernel_rfl) (fun ⟨_, _, hh⟩ => hh) (by kernel_rfl) ?_
        have hC0 := afs_drew S W
        refine pi_c 0 (by assumption) rfl (by kernel_rfl) (by kernel_rfl) (fun _ _ _ _ h => h) (fun K hK => ?_)
        go_big_quiet_op
        refine hK _ ?_
        clear hK K
        refine pi_c 1 (by assumption) rfl (by kernel_rfl) (by kernel_rfl) (fun _ _ _ _ h => h) (fun K hK => ?_)
        go_big_quiet_op
        refine hK _ ?_
        clear hK K
        refine pi_c 2 (by assumption) rfl (by kernel_rfl) (by kernel_rfl) (fun _ _ _ _ h => h) (fun K hK => ?_)
        go_big_quiet_op
        refine hK _ ?_
        clear hK K
        refine pi_l 3 rfl (by kernel_rfl) (fun K hK => ?_)
        go_wp2_with fail
        refine Calls.mono (PartsAsk_c s g C B L ls pt hU w.heap.size x.1.1 x.1.2 hlv2 hbd.1 hlt2 _ (hK1.ext (Below.drew (Ext.refl W))) hpc hpl) ?_
        rintro e w3 ⟨rfl, hx3⟩
        go_wp2
        refine hK _ _ (fun _ h => afs_step h hx3) ?_
        clear hK K
        refine pi_l 4 rfl (by kernel_rfl) (fun K hK => ?_)
        go_wp2
        refine hK _ _ (fun _ h => afs_step h (Ext.alloc' _ _)) ?_
        clear hK K
        have hE3 : Ext W w3 := Ext.trans' (Below.drew (Ext.refl W)) hx3
        have hv3 : Boxed w3 (w2.heap.size + 1) 35 _ := hE3.keep HV.out
        have hr3 := own_ext HR.out hE3
        have hs3 := hE3.size
        refine pi_l 5 rfl (by kernel_rfl) (fun K hK => ?_)
        go_wp2_with (at_builtin; refine wpList_app1 w3 (pt x.1.1 x.1.2) _ _ w2.heap.size 2 hr3 35 rfl _ _ rfl info_i64 Try.underlying35 rfl rfl ?a1 ?a2 ?_)
        case a1 => have := HLEN.out; rw [List.length_map]; omega
        case a2 => omega
        intro v' w4 hown4 hg4 _
        obtain ⟨q1, q2, q3, q4, q5⟩ := Boxed.appended hv3 (by decide) hr3 (by omega) (by omega) hown4 hg4
        obtain ⟨pv4, nv4, cv4, hv4⟩ : ∃ p n c, v' = .slice p n c := by obtain ⟨p, c, h⟩ := own_sl hown4; exact ⟨p, _, c, h⟩
        subst hv4
        have q1c := q1.cell
        have q1l := q1.lt
        have q1f := q1.frozen
        have Q := Lib.hid (And.intro q2 (And.intro q3 (And.intro q4 q5)))
        have hf4 : Boxed w4 w2.heap.size 58 (.func (.func 20) #[] #[.pointer (some ⟨w.heap.size, 0, none⟩)]) := ((show Boxed w3 w2.heap.size _ _ from hE3.keep HF.out).alloc _).kept hg4 ((show Boxed w3 w2.heap.size _ _ from hE3.keep HF.out).not_row (by decide) hr3)
        have HF4 := Lib.hid hf4
        have hcl : ∃ x : AftS S W, w4 = x.w := ⟨⟨w4, mod_grown (hE3.mod S) hg4 (fun i hi => by rw [HS.out]; exact hi)⟩, rfl⟩
        clear hown4 hg4 q1 q2 q3 q4 q5 hf4
        go_wp2
        refine hK _ _ (fun _ _ => hcl) ?_
        clear hK K
        refine pi_l 6 rfl (by kernel_rfl) (fun K hK => ?_)
        go_wp2
        refine hK _ _ (by simp) ?_
        clear hK K
        refine pi_end (by kernel_rfl) ?_
        obtain ⟨q2, q3, q4, q5⟩ := Q.out
        have hbw : Below w2.heap.size W (w4.setCell ⟨w2.heap.size + 1, 0, none⟩ (.slice pv4 nv4 cv4)) := Below.trans (hE3.mono hsW) q5
        refine ⟨((keepsO_ext hE3).trans q4).from _, hbw, ⟨⟨_, q2, ?_, trivial⟩, HF4.out.other (by omega) _⟩, hB1.trans hbw⟩
        rw [List.map_append, List.length_append, List.length_map]
        exact q3
      case done =>
        rintro D xs W hD hxs ⟨⟨⟨v, hv, hrow, _⟩, hf⟩, hB1⟩ hK
        have hvl := hv.lt
        have hvc := hv.cell
        have hsW := hB1.size
        have HR := Lib.hid hrow
        clear hrow hv hf
        gi_wp2
        refine ⟨by simp, .inl ⟨_, _, rfl, run_takeDeferred hK, ?_⟩⟩
        have hcv : xs.map (fun x => pt x.1.1 x.1.2) = cvV pt B lo hi := by
          unfold cvV
          have hxs' : xs.map (fun x : {p : Nat × Int // p ∈ covL B 0 lo hi} => x.1) = covL B 0 lo hi := hxs
          conv => rhs; rw [← hxs']
          rw [List.map_map]; rfl
        have hr := ownsRow_putObj HR.out (.deferred none) hK rfl
        rw [hcv] at hr
        exact ⟨_, results_tmp2 rfl _ _ _, .inr (.inr ⟨HC.out, v, rfl, own_mono hr hsz2, (hE2.trans' hB1).trans (belowK_b (w := w) (Nat.le_refl _) W D _ _ (by omega) hK rfl rfl)⟩)⟩
      case stop =>
        rintro D c pre W _ _ h _
        exact h.elim
def RangePost (w : World) (B : Nat) (pt : Nat → Int → Int) (lo hi : Int) (e : Ending) (w' : World) : Prop :=
  ((hi < lo ∧ e = .returned (.tuple #[.int .i64 0, .int .i64 1])) ∨ ((lo ≤ hi ∧ 2 ^ B ≤ hi) ∧ e = .returned (.tuple #[.int .i64 0, .int .i64 2])) ∨
  ((lo ≤ hi ∧ hi < 2 ^ B) ∧ I64 (lsum (cvV pt B lo hi)) ∧ e = .returned (.tuple #[.int .i64 (lsum (cvV pt B lo hi)), .int .i64 0])) ∨
  ((lo ≤ hi ∧ hi < 2 ^ B) ∧ ¬ I64 (lsum (cvV pt B lo hi)) ∧ e = .returned (.tuple #[.int .i64 0, .int .i64 4]))) ∧ Ext w w'
set_option maxRecDepth 20000 in
set_option maxHeartbeats 2000000 in
theorem Range_c (s g : Nat) (C : Cfg) (B : Nat) (L : Nat → Lev) (ls : Nat → List Int) (w : World) (h : KAt w s g C B L ls) (pt : Nat → Int → Int) (hU : Uniq C B ls pt) (hI : ∀ n i, I64 (pt n i)) (lo hi : Int) (hlo : U64 lo) (hhi : U64 hi) :
    Calls Try.prog 9 #[.pointer (some ⟨s, 0, none⟩), .int .u64 lo, .int .u64 hi] w (RangePost w B pt lo hi) := by
  have hlen : (cvV pt B lo hi).length ≤ 1152921504606846976 := by
    unfold cvV
    rw [List.length_map]
    have := cov_len B 0 lo hi
    have h2 := h.ok.b2
    have h3 := h.hB
    omega
  have hall : ∀ x ∈ cvV pt B lo hi, I64 x := by
    intro x hx
    unfold cvV at hx
    simp only [List.mem_map] at hx
    obtain ⟨p, _, rfl⟩ := hx
    exact hI _ _
  have HH := Lib.hid h
  have HL := Lib.hid hlen
  have HA := Lib.hid hall
  clear h hlen hall
  go_enter Try.func9, Try.ntmps9
  go_wp2_with fail
  refine Calls.mono (Parts_c s g C B L ls _ HH.out pt hU lo hi hlo hhi) ?_
  rintro e w1 (⟨hc, rfl, hx⟩ | ⟨hc, rfl, hx⟩ | ⟨hc, v, rfl, ho, hx⟩)
  · go_wp2_with fail
    go_ret2
    exact ⟨.inl ⟨hc, rfl⟩, hx⟩
  · go_wp2_with fail
    go_ret2
    exact ⟨.inr (.inl ⟨hc, rfl⟩), hx⟩
  · have HC := Lib.hid hc
    clear hc
    go_wp2_with fail
    refine Calls.mono (Sum_c _ v w1 HA.out HL.out (IntsAt.of_row ho)) ?_
    rintro e w2 ⟨rfl, hx2⟩
    by_cases hT : I64 (lsum (cvV pt B lo hi))
    · rw [fitB_yes hT, fitN_yes hT]
      go_wp2_with fail
      go_ret2
      exact ⟨.inr (.inr (.inl ⟨HC.out, hT, rfl⟩)), hx.trans' hx2⟩
    · rw [fitB_no hT]
      go_wp2_with fail
      go_ret2
      exact ⟨.inr (.inr (.inr ⟨HC.out, hT, rfl⟩)), hx.trans' hx2⟩
set_option maxRecDepth 20000 in
set_option maxHeartbeats 2000000 in
theorem Rank_c (s g : Nat) (C : Cfg) (B : Nat) (L : Nat → Lev) (ls : Nat → List Int) (w : World) (h : KAt w s g C B L ls) (pt : Nat → Int → Int) (hU : Uniq C B ls pt) (hI : ∀ n i, I64 (pt n i)) (x : Int) (hx : U64 x) :
    Calls Try.prog 12 #[.pointer (some ⟨s, 0, none⟩), .int .u64 x] w (RangePost w B pt 0 x) := by
  go_enter Try.func12, Try.ntmps12
  go_wp2_with fail
  refine Calls.mono (Range_c s g C B L ls _ h pt hU hI 0 x ⟨by decide, by decide⟩ hx) ?_
  rintro e w1 ⟨⟨hc, rfl⟩ | ⟨hc, rfl⟩ | ⟨hc, hT, rfl⟩ | ⟨hc, hT, rfl⟩, hE⟩
  · have := hx.1; omega
  · go_wp2_with fail
    go_ret2
    exact ⟨.inr (.inl ⟨hc, rfl⟩), hE⟩
  · go_wp2_with fail
    go_ret2
    exact ⟨.inr (.inr (.inl ⟨hc, hT, rfl⟩)), hE⟩
  · go_wp2_with fail
    go_ret2
    exact ⟨.inr (.inr (.inr ⟨hc, hT, rfl⟩)), hE⟩
end Go.Proofs.Ytfhdjekpdifajaa
namespace Go.Proofs.Ytfhdjekpdifajaa
set_option linter.unusedVariables false
open Go.RowKit
def K1 : Cfg := ⟨3, 1, 8, 1, 0⟩
theorem K1_ok : K1.Ok := by constructor <;> simp [K1, U64]
def us1 : List (Int × Int) := [(1, 5), (6, 7)]
theorem us1_ok : UpsOk us1 := by
  intro u hu
  simp only [us1, List.mem_cons, List.not_mem_nil, or_false] at hu
  rcases hu with rfl | rfl <;> (constructor <;> simp [U64, I64])
theorem K1_c1 : cutK K1 0 1 = 1 := by decide
theorem K1_c6 : cutK K1 0 6 = 6 := by decide
theorem K1_d5 : cutD K1.mode 5 = 5 := by decide
theorem K1_d7 : cutD K1.mode 7 = 7 := by decide
theorem K1_s1 : updK K1 (feedK K1 []) 1 5 = feedK K1 [(1, 5)] := by
  have h := feedK_snoc K1 [] (1, 5)
  rw [K1_c1, K1_d5] at h
  exact h.symm
theorem K1_s2 : updK K1 (feedK K1 [(1, 5)]) 6 7 = feedK K1 us1 := by
  have h := feedK_snoc K1 [(1, 5)] (6, 7)
  rw [K1_c6, K1_d7] at h
  exact h.symm
theorem K1_e1 : errK K1 3 (feedK K1 []) 1 5 = 0 := by
  have h := feedK_ok K1 K1_ok (B := 3) rfl [] (by decide) (1, 5)
  rw [K1_c1, K1_d5] at h
  exact h
theorem K1_e2 : errK K1 3 (feedK K1 [(1, 5)]) 6 7 = 0 := by
  have h := feedK_ok K1 K1_ok (B := 3) rfl [(1, 5)] (by decide) (6, 7)
  rw [K1_c6, K1_d7] at h
  exact h
theorem us1_p : psU K1 us1 = [(1, 5), (6, 7)] := by decide
theorem K1_x (n : Nat) (h : n ≤ 3) : isX K1 n = true := by
  match n, h with
  | 0, _ => decide
  | 1, _ => decide
  | 2, _ => decide
  | 3, _ => decide
theorem K1_p {n : Nat} {i : Int} (hn : n ≤ 3) (h0 : 0 ≤ i) (h1 : i < keys K1 n) : ptK K1 3 us1 n i = pcS [(1, 5), (6, 7)] n i := by
  rw [← us1_p]
  exact ptK_x K1_ok rfl us1_ok hn h0 h1 (K1_x n hn)
end Go.Proofs.Ytfhdjekpdifajaa
namespace Go.Proofs.Ytfhdjekpdifajaa
set_option linter.unusedVariables false
open Go.RowKit
theorem uniq_fed (C : Cfg) (B : Nat) (us : List (Int × Int)) : Uniq C B (feedK C (fus us 0 60)) (ptK C B us) := fun n i x hn h0 h1 h => ptK_of hn h0 h1 h
theorem ptK_I64 (C : Cfg) (B : Nat) (us : List (Int × Int)) (n : Nat) (i : Int) : I64 (ptK C B us n i) := by
  obtain ⟨h1, h2⟩ := ptK_bnd C B us n i
  unfold I64; omega
theorem cv_bd {C : Cfg} {B : Nat} (hB : B ≤ 59) (us : List (Int × Int)) (lo hi : Int) : -7850513022320640 ≤ lsum (cvV (ptK C B us) B lo hi) ∧ lsum (cvV (ptK C B us) B lo hi) ≤ 7850513022320640 := by
  have h := lsum_bd (l := cvV (ptK C B us) B lo hi) (B := 65970697666560) (by decide) (fun x hx => by
    unfold cvV at hx
    simp only [List.mem_map] at hx
    obtain ⟨p, _, rfl⟩ := hx
    exact ptK_bnd C B us _ _)
  have hl : (cvV (ptK C B us) B lo hi).length ≤ 2 * B + 1 := by unfold cvV; rw [List.length_map]; exact cov_len B 0 lo hi
  omega
theorem cv_I64 {C : Cfg} {B : Nat} (hB : B ≤ 59) (us : List (Int × Int)) (lo hi : Int) : I64 (lsum (cvV (ptK C B us) B lo hi)) := by
  obtain ⟨h1, h2⟩ := cv_bd (C := C) hB us lo hi
  unfold I64; omega
theorem range_ok {w w' : World} {B : Nat} {pt : Nat → Int → Int} {lo hi : Int} {e : Ending} (h : RangePost w B pt lo hi e w') (h1 : lo ≤ hi) (h2 : hi < 2 ^ B) (hI : I64 (lsum (cvV pt B lo hi))) :
    e = .returned (.tuple #[.int .i64 (lsum (cvV pt B lo hi)), .int .i64 0]) ∧ Ext w w' := by
  obtain ⟨h | h | h | h, hE⟩ := h
  · have := h.1; omega
  · have := h.1; omega
  · exact ⟨h.2.2, hE⟩
  · exact absurd hI h.2.1
end Go.Proofs.Ytfhdjekpdifajaa
namespace Go.Proofs.Ytfhdjekpdifajaa
set_option linter.unusedVariables false
open Go.RowKit
theorem keys0_pow {C : Cfg} {B : Nat} (hB : C.bits = B) : keys C 0 = 2 ^ B := by unfold keys; rw [hB]; congr 1
end Go.Proofs.Ytfhdjekpdifajaa
namespace Go.Proofs.Ytfhdjekpdifajaa
set_option linter.unusedVariables false
open Go.RowKit
theorem K1_q (n : Nat) (i x : Int) (hn : n ≤ 3) (h0 : 0 ≤ i) (h1 : i < keys K1 n) (h : pcS [(1, 5), (6, 7)] n i = x) : ptK K1 3 us1 n i = x := by rw [K1_p hn h0 h1, h]
theorem K1_cv16 : cvV (ptK K1 3 us1) 3 1 6 = [5, 0, 0, 7] := by
  have e : covL 3 0 1 6 = [(0, 1), (1, 1), (1, 2), (0, 6)] := rfl
  unfold cvV
  rw [e]
  show [ptK K1 3 us1 0 1, ptK K1 3 us1 1 1, ptK K1 3 us1 1 2, ptK K1 3 us1 0 6] = _
  rw [K1_q 0 1 5 (by decide) (by decide) (by decide) (by decide), K1_q 1 1 0 (by decide) (by decide) (by decide) (by decide), K1_q 1 2 0 (by decide) (by decide) (by decide) (by decide), K1_q 0 6 7 (by decide) (by decide) (by decide) (by decide)]
theorem K1_cv05 : cvV (ptK K1 3 us1) 3 0 5 = [5, 0] := by
  have e : covL 3 0 0 5 = [(2, 0), (1, 2)] := rfl
  unfold cvV
  rw [e]
  show [ptK K1 3 us1 2 0, ptK K1 3 us1 1 2] = _
  rw [K1_q 2 0 5 (by decide) (by decide) (by decide) (by decide), K1_q 1 2 0 (by decide) (by decide) (by decide) (by decide)]
theorem ints4 (w : World) (a b c d : Int) (t : TypeId) : IntsAt (w.alloc (.cells #[.int .i64 a, .int .i64 b, .int .i64 c, .int .i64 d] t)) (.slice (some ⟨w.heap.size, 0, none⟩) 4 4) [a, b, c, d] := by
  have h := fun j => cell_of (heap_at w (.cells #[.int .i64 a, .int .i64 b, .int .i64 c, .int .i64 d] t) rfl) j
  refine .inr ⟨w.heap.size, 0, 4, rfl, by rw [size_alloc]; omega, fun k hk => ?_⟩
  match k, hk with
  | 0, _ => exact (h 0).trans rfl
  | 1, _ => exact (h 1).trans rfl
  | 2, _ => exact (h 2).trans rfl
  | 3, _ => exact (h 3).trans rfl
set_option maxRecDepth 20000 in
set_option maxHeartbeats 4000000 in
theorem shown16_c (w : World) : Calls Try.prog 4 #[] w fun e w' => e = .returned (.bool true) ∧ Ext w w' := by
  go_enter Try.func4, Try.ntmps4
  go_wp2_with fail
  refine (KNew_c K1 K1_ok _).mono ?_
  rintro e w1 ⟨s, g, L, rfl, hK, hs, hg, hL, hx1⟩
  have hE1 : Ext w w1 := by (repeat' (first | exact Ext.refl _ | assumption | apply Ext.allocR | apply Ext.drewR | apply Ext.drewNR | (refine Ext.trans' ?_ (by assumption))))
  have hF : KFresh w.heap.size 3 L := hL
  replace hK : KAt w1 s g K1 3 L (feedK K1 []) := hK
  clear hx1 hL hg hs
  go_wp2_with fail
  refine Calls.mono (KUpdate_c s g K1 3 L _ 1 5 _ (hK.ext ?hx) (by unfold I64; omega) (by unfold U64; omega)) ?_
  case hx => (repeat' (first | exact Ext.refl _ | assumption | apply Ext.allocR | apply Ext.drewR | apply Ext.drewNR | (refine Ext.trans' ?_ (by assumption))))
  rintro e w3 ⟨rfl, hK3, hM3⟩
  have hE3 : Ext w w3 := hF.ext (by (repeat' (first | exact Ext.refl _ | assumption | apply Ext.allocR | apply Ext.drewR | apply Ext.drewNR | (refine Ext.trans' ?_ (by assumption))))) hM3
  rw [K1_e1] at hK3 ⊢
  replace hK3 : KAt w3 s g K1 3 L (updK K1 (feedK K1 []) 1 5) := hK3
  rw [K1_s1] at hK3
  clear hM3 hE1 hK
  go_wp2_with fail
  refine Calls.mono (KUpdate_c s g K1 3 L _ 6 7 _ (hK3.ext ?hx) (by unfold I64; omega) (by unfold U64; omega)) ?_
  case hx => (repeat' (first | exact Ext.refl _ | assumption | apply Ext.allocR | apply Ext.drewR | apply Ext.drewNR | (refine Ext.trans' ?_ (by assumption))))
  rintro e w4 ⟨rfl, hK4, hM4⟩
  have hE4 : Ext w w4 := hF.ext (by (repeat' (first | exact Ext.refl _ | assumption | apply Ext.allocR | apply Ext.drewR | apply Ext.drewNR | (refine Ext.trans' ?_ (by assumption))))) hM4
  rw [K1_e2] at hK4 ⊢
  replace hK4 : KAt w4 s g K1 3 L (updK K1 (feedK K1 [(1, 5)]) 6 7) := hK4
  rw [K1_s2] at hK4
  clear hM4 hE3 hK3
  have hU : Uniq K1 3 (feedK K1 us1) (ptK K1 3 us1) := uniq_fed K1 3 us1
  have hR : ∀ W' lo hi, Ext w4 W' → U64 lo → U64 hi → Calls Try.prog 9 #[.pointer (some ⟨s, 0, none⟩), .int .u64 lo, .int .u64 hi] W' (RangePost W' 3 (ptK K1 3 us1) lo hi) := fun W' lo hi h h1 h2 => Range_c s g K1 3 L _ W' (hK4.ext h) _ hU (ptK_I64 K1 3 us1) lo hi h1 h2
  have hR2 : ∀ W' x, Ext w4 W' → U64 x → Calls Try.prog 12 #[.pointer (some ⟨s, 0, none⟩), .int .u64 x] W' (RangePost W' 3 (ptK K1 3 us1) 0 x) := fun W' x h h1 => Rank_c s g K1 3 L _ W' (hK4.ext h) _ hU (ptK_I64 K1 3 us1) x h1
  have hP : ∀ W' lo hi, Ext w4 W' → U64 lo → U64 hi → Calls Try.prog 7 #[.pointer (some ⟨s, 0, none⟩), .int .u64 lo, .int .u64 hi] W' (PartsPost W' 3 (ptK K1 3 us1) lo hi) := fun W' lo hi h h1 h2 => Parts_c s g K1 3 L _ W' (hK4.ext h) _ hU lo hi h1 h2
  clear hU hK4 hF
  go_wp2_with fail
  refine (hR _ 1 6 (by (repeat' (first | exact Ext.refl _ | assumption | apply Ext.allocR | apply Ext.drewR | apply Ext.drewNR | (refine Ext.trans' ?_ (by assumption))))) ⟨by decide, by decide⟩ ⟨by decide, by decide⟩).mono ?_
  rintro e w5 ⟨hp, hx5⟩
  rw [K1_cv16] at hp
  obtain ⟨_, _, rfl⟩ := (hp.resolve_left (fun h => by have := h.1; omega)).resolve_left (fun h => by have := h.1; omega) |>.resolve_right (fun h => h.2.1 ⟨by decide, by decide⟩)
  have hE5 : Ext w4 w5 := by (repeat' (first | exact Ext.refl _ | assumption | apply Ext.allocR | apply Ext.drewR | apply Ext.drewNR | (refine Ext.trans' ?_ (by assumption))))
  clear hx5 hp
  go_wp2_with fail
  refine (hR2 _ 5 (hE5.trans' (by (repeat' (first | exact Ext.refl _ | assumption | apply Ext.allocR | apply Ext.drewR | apply Ext.drewNR | (refine Ext.trans' ?_ (by assumption)))))) ⟨by decide, by decide⟩).mono ?_
  rintro e w6 ⟨hp, hx6⟩
  rw [K1_cv05] at hp
  obtain ⟨_, _, rfl⟩ := (hp.resolve_left (fun h => by have := h.1; omega)).resolve_left (fun h => by have := h.1; omega) |>.resolve_right (fun h => h.2.1 ⟨by decide, by decide⟩)
  have hE6 : Ext w4 w6 := hE5.trans' (by (repeat' (first | exact Ext.refl _ | assumption | apply Ext.allocR | apply Ext.drewR | apply Ext.drewNR | (refine Ext.trans' ?_ (by assumption)))))
  clear hx6 hp hE5
  go_wp2_with fail
  refine (hP _ 1 6 (hE6.trans' (by (repeat' (first | exact Ext.refl _ | assumption | apply Ext.allocR | apply Ext.drewR | apply Ext.drewNR | (refine Ext.trans' ?_ (by assumption)))))) ⟨by decide, by decide⟩ ⟨by decide, by decide⟩).mono ?_
  rintro e w7 hp
  obtain ⟨_, v, rfl, ho, hx7⟩ := (hp.resolve_left (fun h => by have := h.1; omega)).resolve_left (fun h => by have := h.1; omega)
  rw [K1_cv16] at ho
  have hv := IntsAt.of_row ho
  obtain ⟨pv, cv, rfl⟩ := own_sl ho
  have hE7 : Ext w4 w7 := hE6.trans' (by (repeat' (first | exact Ext.refl _ | assumption | apply Ext.allocR | apply Ext.drewR | apply Ext.drewNR | (refine Ext.trans' ?_ (by assumption)))))
  clear hx7 hp hE6 ho
  go_wp2_with fail
  refine (hR _ 2 1 (hE7.trans' (by (repeat' (first | exact Ext.refl _ | assumption | apply Ext.allocR | apply Ext.drewR | apply Ext.drewNR | (refine Ext.trans' ?_ (by assumption)))))) ⟨by decide, by decide⟩ ⟨by decide, by decide⟩).mono ?_
  rintro e w8 ⟨hp, hx8⟩
  obtain ⟨_, rfl⟩ := hp.resolve_right (fun h => by rcases h with h | h | h <;> (have := h.1; omega))
  have hE8 : Ext w4 w8 := hE7.trans' (by (repeat' (first | exact Ext.refl _ | assumption | apply Ext.allocR | apply Ext.drewR | apply Ext.drewNR | (refine Ext.trans' ?_ (by assumption)))))
  have hv8 : IntsAt w8 _ _ := hv.ext (by (repeat' (first | exact Ext.refl _ | assumption | apply Ext.allocR | apply Ext.drewR | apply Ext.drewNR | (refine Ext.trans' ?_ (by assumption)))))
  clear hx8 hp hE7 hv
  go_wp2_with fail
  refine (hR _ 2 8 (hE8.trans' (by (repeat' (first | exact Ext.refl _ | assumption | apply Ext.allocR | apply Ext.drewR | apply Ext.drewNR | (refine Ext.trans' ?_ (by assumption)))))) ⟨by decide, by decide⟩ ⟨by decide, by decide⟩).mono ?_
  rintro e w9 ⟨hp, hx9⟩
  obtain ⟨_, rfl⟩ := (hp.resolve_left (fun h => by have := h.1; omega)).resolve_right (fun h => by rcases h with h | h <;> (have := h.1; omega))
  have hE9 : Ext w4 w9 := hE8.trans' (by (repeat' (first | exact Ext.refl _ | assumption | apply Ext.allocR | apply Ext.drewR | apply Ext.drewNR | (refine Ext.trans' ?_ (by assumption)))))
  have hv9 : IntsAt w9 _ _ := hv8.ext (by (repeat' (first | exact Ext.refl _ | assumption | apply Ext.allocR | apply Ext.drewR | apply Ext.drewNR | (refine Ext.trans' ?_ (by assumption)))))
  clear hx9 hp hE8 hv8 hR hR2 hP
  rw [show lsum [5, 0, 0, 7] = 12 from rfl, show lsum [5, 0] = 5 from rfl]
  go_wp2_with fail
  refine Calls.mono (Same_c _ _ _ _ _ (hv9.ext (Ext.alloc' _ _)) (ints4 w9 5 0 0 7 _) (by decide) (by decide)) ?_
  rintro e w10 ⟨rfl, hx10⟩
  rw [decide_eq_true (rfl : ([5, 0, 0, 7] : List Int) = [5, 0, 0, 7])]
  go_wp2
  go_ret
  exact ⟨rfl, hE4.trans' (hE9.trans' (by (repeat' (first | exact Ext.refl _ | assumption | apply Ext.allocR | apply Ext.drewR | apply Ext.drewNR | (refine Ext.trans' ?_ (by assumption))))))⟩
end Go.Proofs.Ytfhdjekpdifajaa
namespace Go.Proofs.Ytfhdjekpdifajaa
set_option linter.unusedVariables false
open Go.RowKit
def KFed16Post (w : World) (C : Cfg) (us : List (Int × Int)) (ka kb : Int) (e : Ending) (w' : World) : Prop :=
  ∃ (s g : Nat) (L : Nat → Lev), e = .returned (.tuple #[.pointer (some ⟨s, 0, none⟩), .agg #[.int .i64 C.bits, .int .i64 C.rows, .int .i64 C.width, .int .i64 C.mode, .int .u64 C.seed], .int .u64 (min (ka % keys C 0) (kb % keys C 0)), .int .u64 (max (ka % keys C 0) (kb % keys C 0))]) ∧
    KAt w' s g C C.bits.toNat L (feedK C (fus us 0 60)) ∧ w.heap.size ≤ s ∧ w.heap.size ≤ g ∧ (∀ n, n ≤ C.bits.toNat → w.heap.size ≤ (L n).s ∧ w.heap.size ≤ (L n).b ∧ w.heap.size ≤ (L n).c) ∧ Ext w w'
set_option maxRecDepth 20000 in
set_option maxHeartbeats 4000000 in
theorem fed16_c (x : Cfg) (hx : x.Raw) (nb : Int) (hn1 : 1 ≤ nb) (hn2 : nb ≤ 20) (m : Int) (hm1 : 0 ≤ m) (hm2 : m ≤ 3) (ka kb : Int) (hka : U64 ka) (hkb' : U64 kb) (us : List (Int × Int)) (hus : UpsOk us) (v : Value) (w : World) (hv : UpsAt w v us) (hul : us.length ≤ 140737488355328) :
    Calls Try.prog 5 #[.agg #[.int .i64 x.bits, .int .i64 x.rows, .int .i64 x.width, .int .i64 x.mode, .int .u64 x.seed, v], .int .i64 nb, .int .i64 m, .int .u64 ka, .int .u64 kb] w (KFed16Post w (kcfg x nb m) us ka kb) := by
  obtain ⟨vp, vc, rfl⟩ := hv.sl
  have HV := Lib.hid hv
  have hok := kcfg_ok x hx.s (m := m) hn1 hn2 hm2
  have hbits1 := hok.b1
  have hbits2 := hok.b2
  clear hv
  go_enter Try.func5, Try.ntmps5
  go_wp2_with fail
  refine (Any_c x hx nb 9 hn1 hn2 (by decide) (by decide) _).mono ?_
  rintro e w1 ⟨rfl, hb1⟩
  have hs1 := hb1.size
  simp only [size_alloc] at hs1
  have kp : w1.heap[w.heap.size]? = some (.cells #[.int .i64 x.bits, .int .i64 x.rows, .int .i64 x.width, .int .i64 x.mode, .int .u64 x.seed, .slice vp us.length vc] 27 (0, 0)) := by
    rw [hb1.block _ (by simp only [size_alloc]; omega), heap_old _ _ (by rw [size_alloc]; omega)]
    exact heap_at _ _ rfl
  have kr : w1.heap[w.heap.size + 1]? = some (.cells #[.int .i64 0, .int .i64 0, .int .i64 0, .int .i64 0, .int .u64 0] 24 (0, 0)) := by
    rw [hb1.block _ (by simp only [size_alloc]; omega)]
    exact heap_at _ _ (by simp only [size_alloc])
  have hE1 : Ext w w1 := by (repeat' (first | exact Ext.refl _ | assumption | apply Ext.allocR | apply Ext.drewR | apply Ext.drewNR | (refine Ext.trans' ?_ (by assumption))))
  clear hb1
  have hmk : (mkC x nb 9).bits = 1 + x.bits % 65536 % nb := rfl
  generalize hC : kcfg x nb m = C at *
  generalize hA : mkC x nb 9 = A at *
  have HCA := Lib.hid (And.intro hC hA)
  clear hC hA hmk
  go_upto_if 25 with (fail)
  go_cut [] (fun wx => wx.heap[w1.heap.size]? = some (.cells #[.int .i64 C.bits, .int .i64 C.rows, .int .i64 C.width, .int .i64 C.mode, .int .u64 C.seed] 24 (0, 0)) ∧ Ext w1 wx)
  case first =>
    have hbx := heap_at w1 (.cells #[.int .i64 A.bits, .int .i64 A.rows, .int .i64 A.width, .int .i64 A.mode, .int .u64 A.seed] 24) rfl
    by_cases hm : 0 < m
    · have hp := kcfg_pos x nb hm
      rw [HCA.out.1, HCA.out.2] at hp
      have HP := Lib.hid hp
      have p3 := (cell_of hbx 3).trans rfl
      have f3 := frozen_of hbx 3
      clear hp
      go_wp2
      go_meet
      refine ⟨(heap_at w1 _ rfl).trans ?_, Ext.alloc' _ _⟩
      rw [← HP.out.1, ← HP.out.2.1, ← HP.out.2.2.1, ← HP.out.2.2.2.1, ← HP.out.2.2.2.2]
    · have hp := kcfg_none x nb hm
      rw [HCA.out.1, HCA.out.2] at hp
      subst hp
      clear HCA
      go_wp2
      go_meet
      exact ⟨hbx, Ext.alloc' _ _⟩
  case rest =>
    obtain ⟨kc, hxc⟩ := hcut
    have hsc := hxc.size
    have hcl := lt_of kc
    have kp2 := hxc.keep kp
    have kr2 := hxc.keep kr
    have hEc : Ext w wc := hE1.trans' hxc
    have hCc := CfgAt.of kc
    have c0 := hCc.c0
    have c1 := hCc.c1
    have c2 := hCc.c2
    have c3 := hCc.c3
    have c4 := hCc.c4
    clear hCc HCA kp kr hE1 hxc
    have hkb := keys_bd C hok 0 (Int.le_refl 0)
    have hkz : (keys C 0 == 0) = false := by simp; omega
    go_wp2_with fail
    refine (KeysR_c C hok 0 (Int.le_refl 0) (by omega) _).mono ?_
    rintro e wk ⟨rfl, hxk⟩
    clear c0 c1 c2 c3 c4
    replace kc := hxk.keep kc
    replace kp2 := hxk.keep kp2
    replace kr2 := hxk.keep kr2
    replace hEc := hEc.trans' hxk
    replace hsc : w1.heap.size ≤ wk.heap.size := Nat.le_trans hsc hxk.size
    replace hcl := lt_of kc
    have hCk := CfgAt.of kc
    have c0 := hCk.c0
    have c1 := hCk.c1
    have c2 := hCk.c2
    have c3 := hCk.c3
    have c4 := hCk.c4
    clear hCk hxk
    generalize hKN : keys C 0 = KN at *
    have HKN := Lib.hid hKN
    clear hKN
    go_wp2_with fail
    refine (KNew_c C hok _).mono ?_
    rintro e w2 ⟨s, g, L, rfl, hK, hs, hg, hL, hx2⟩
    obtain ⟨B, hB⟩ : ∃ B : Nat, C.bits = B := ⟨C.bits.toNat, by omega⟩
    have hBt : C.bits.toNat = B := by omega
    rw [hBt] at hK hL
    have hBd : B ≤ 59 := by omega
    have HB := Lib.hid hB
    have HBT := Lib.hid hBt
    have hE2 : Ext w w2 := hEc.trans' hx2
    have hs2 := hx2.size
    have KP := Lib.hid (hx2.keep kp2)
    have KR := Lib.hid (hx2.keep kr2)
    have KC := Lib.hid (hx2.keep kc)
    have hF : KFresh wk.heap.size B L := hL
    have hnc : ∀ k, k < wk.heap.size → ¬ cellsOf B L k := fun k hk hc => by obtain ⟨n, hn, rfl⟩ := hc; have := (hF n hn).2.2; omega
    clear hx2 c0 c1 c2 c3 c4 hL hB hBt kp2 kr2 kc
    go_wp2
    have hM0 : Mod (cellsOf B L) w2 w2 := Mod.refl _ _
    have hK0 : KAt w2 s g C B L (feedK C (fus us 0 0)) := by rw [fus_self]; exact hK
    clear hK
    go_loopw [18] (fun u wr => ∃ k : Nat, 0 ≤ k ∧ (k = 0 ∨ (k ≤ 60 ∧ k ≤ us.length)) ∧ u = .int .i64 k ∧ Mod (cellsOf B L) w2 wr ∧ KAt wr s g C B L (feedK C (fus us 0 k))) (fun u _ => 60 - (intOf u).toNat)
    case atStart => exact ⟨0, Nat.le_refl _, .inl rfl, rfl, hM0, hK0⟩
    case round =>
      clear hM0 hK0
      obtain ⟨k, hik, hkj, rfl, hM, hK⟩ := hrel
      have hMs := hM.size
      have hsz1 := hEc.size
      have qp := hM.keep KP.out (hnc _ (by omega))
      have qc := hM.keep KC.out (hnc _ hcl)
      have q5 := (cell_of qp 5).trans rfl
      have lp := lt_of qp
      have lc := lt_of qc
      have hCq := CfgAt.of qc
      have c0 := hCq.c0
      have c1 := hCq.c1
      have c2 := hCq.c2
      have c3 := hCq.c3
      have c4 := hCq.c4
      clear hCq
      by_cases hgo : k < us.length ∧ k < 60
      · obtain ⟨hg1, hg2⟩ := hgo
        have hkj60 : k < 60 := by omega
        obtain ⟨ug, off, rfl, hul0, d0', d1'⟩ := HV.out.one hg1
        have hnu : ¬ cellsOf B L ug := hnc _ (by omega)
        have d0 := (mcell hM (b := ug) (by omega) hnu (off + k * 2)).trans (((bcell hE2).1 _ _ hul0).trans d0')
        have d1 := (mcell hM (b := ug) (by omega) hnu (off + k * 2 + 1)).trans (((bcell hE2).1 _ _ hul0).trans d1')
        have hgl2 : ug < wr.heap.size := by omega
        have hf := fus_snoc us (Nat.zero_le k) hg1
        have hu := hus _ (List.getElem_mem hg1)
        have hget : us.getD k (0, 0) = us[k] := by simp [hg1]
        rw [hget] at hf
        generalize us[k] = uu at *
        obtain ⟨uk, ud⟩ := uu
        have HF := Lib.hid hf
        clear hf hget d0' d1'
        have herr := feedK_ok C hok HB.out (fus us 0 k) (by have := fus_len us 0 k; omega) (uk, ud)
        have HERR := Lib.hid herr
        have HQ := Lib.hid qp
        have HK := Lib.hid hK
        clear herr qp qc hK
        go_upto_region 11 with (fail)
        go_cut [19] (fun s19 wx => ∃ bu : Nat, s19 = .pointer (some ⟨bu, 0, none⟩) ∧ wx.heap[bu]? = some (.cells #[.int .u64 (cutK C 0 uk), .int .i64 (cutD C.mode ud)] 53 (0, 0)) ∧ Ext wr wx ∧ wr.heap.size ≤ bu)
        case first =>
          have hC0 := af_drew wr
          refine pi_start (fun w' => ∃ x : After wr, w' = x.w) [] (by kernel_rfl) ?_
          refine pi_c 0 (by assumption) rfl (by kernel_rfl) (by kernel_rfl) (fun _ _ _ _ h => h) (fun K hK => ?_)
          go_big_quiet_op
          refine hK _ ?_
          clear hK K
          refine pi_t 1 rfl (by kernel_rfl) (by kernel_rfl) (fun _ _ _ _ h => h) (fun K hK => ?_)
          go_big_quiet_op
          refine hK _ ?_
          clear hK K
          refine pi_c 2 (by assumption) rfl (by kernel_rfl) (by kernel_rfl) (fun _ _ _ _ h => h) (fun K hK => ?_)
          go_big_quiet_op
          refine hK _ ?_
          clear hK K
          refine pi_t 3 rfl (by kernel_rfl) (by kernel_rfl) (fun _ _ _ _ h => h) (fun K hK => ?_)
          go_big_quiet_op
          refine hK _ ?_
          clear hK K
          refine pi_t 4 rfl (by kernel_rfl) (by kernel_rfl) (fun _ _ _ _ h => h) (fun K hK => ?_)
          go_big_quiet_op
          refine hK _ ?_
          clear hK K
          refine pi_c 5 (by assumption) rfl (by kernel_rfl) (by kernel_rfl) (fun _ _ _ _ h => h) (fun K hK => ?_)
          go_big_quiet_op
          refine hK _ ?_
          clear hK K
          refine pi_b 6 7 rfl rfl (by kernel_rfl) (fun K hK => ?_) (fun K hK => ?_)
          · go_wp2_with (go_at_call 16; refine (Cut15_c C hok uk ud hu.1 hu.2 _).mono ?_; rintro e w3 ⟨rfl, hx3⟩)
            have hx3' : Ext wr w3 := Ext.trans' (Below.drew (Ext.refl wr)) hx3
            have hs3 := hx3'.size
            refine hK _ _ (fun _ h => af_step h hx3) ?_
            clear hK K
            refine pi_l 7 rfl (by kernel_rfl) (fun K hK => ?_)
            go_wp2
            refine hK _ _ (fun _ h => af_step h (Ext.alloc' _ _)) ?_
            clear hK K
            refine pi_l 8 rfl (by kernel_rfl) (fun K hK => ?_)
            go_wp2
            refine hK _ _ (fun _ _ => ⟨⟨_, hx3'.allocR _⟩, rfl⟩) ?_
            clear hK K
            refine pi_end (by kernel_rfl) ?_
            go_wp2_with fail
            go_meet
            exact ⟨w3.heap.size, rfl, heap_at _ _ rfl, hx3'.allocR _, hs3⟩
          · go_wp2
            refine hK _ _ (fun _ h => af_step h (Ext.alloc' _ _)) ?_
            clear hK K
            refine pi_l 6 rfl (by kernel_rfl) (fun K hK => ?_)
            go_wp2_with (go_at_call 16; refine (Cut15_c C hok uk ud hu.1 hu.2 _).mono ?_; rintro e w3 ⟨rfl, hx3⟩)
            refine hK _ _ (fun _ h => af_step h hx3) ?_
            clear hK K
            have hs3 : (wr.alloc (.cells #[.int .u64 0, .int .i64 0] 53)).heap.size ≤ w3.heap.size := hx3.size
            rw [size_alloc] at hs3
            have hx3' : Ext wr w3 := Ext.trans' (Ext.alloc' wr _) (Ext.trans' (Below.drew (Ext.refl _)) hx3)
            have hbx : w3.heap[wr.heap.size]? = some (.cells #[.int .u64 0, .int .i64 0] 53 (0, 0)) := by
              rw [hx3.block _ (by show _ < (wr.alloc _).heap.size; rw [size_alloc]; exact Nat.lt_succ_self _)]
              exact heap_at wr _ rfl
            have p0 := (cell_of hbx 0).trans rfl
            have p1 := (cell_of hbx 1).trans rfl
            have f0 := frozen_of hbx 0
            have f1 := frozen_of hbx 1
            refine pi_l 8 rfl (by kernel_rfl) (fun K hK => ?_)
            go_wp2
            refine hK _ _ (fun _ _ => ⟨⟨_, (hx3'.setR (Nat.le_refl _) _).setR (Nat.le_refl _) _⟩, rfl⟩) ?_
            clear hK K
            refine pi_end (by kernel_rfl) ?_
            go_wp2_with fail
            go_meet
            exact ⟨wr.heap.size, rfl, set2 hbx _ _, (hx3'.setR (Nat.le_refl _) _).setR (Nat.le_refl _) _, Nat.le_refl _⟩
        case rest =>
          obtain ⟨bu, rfl, hbu, hxw, hbul⟩ := hcut
          have b0 := (cell_of hbu 0).trans rfl
          have b1 := (cell_of hbu 1).trans rfl
          have hdI : I64 (cutD C.mode ud) := by have := cutD_bd C.mode ud; unfold I64; omega
          have hkU : U64 (cutK C 0 uk) := by have := cutK_bd C hok 0 uk (Int.le_refl 0); have := keys_bd C hok 0 (Int.le_refl 0); unfold U64; omega
          clear c0 c1 c2 c3 c4 q5 d0 d1
          go_wp2_with fail
          refine Calls.mono (KUpdate_c s g C B L _ _ _ _ (HK.out.ext hxw) hdI hkU) ?_
          rintro e w4 ⟨rfl, hK4, hM4⟩
          rw [HERR.out] at hK4 ⊢
          go_wp2
          go_roundw
          case rel =>
            refine ⟨k + 1, by omega, .inr ⟨by omega, by omega⟩, by go_num, hM.trans ((hxw.mod _).trans hM4), ?_⟩
            rw [HF.out, feedK_snoc]
            exact hK4
          case measure => simp [intOf]; omega
      · have hfe := fus_end us (i := 0) (j := 60) (k := k) (by omega) (by omega) hkj hgo
        have HFE := Lib.hid hfe
        have qr := hM.keep KR.out (hnc _ (by omega))
        have p0 := (cell_of qr 0).trans rfl
        have p1 := (cell_of qr 1).trans rfl
        have p2 := (cell_of qr 2).trans rfl
        have p3 := (cell_of qr 3).trans rfl
        have p4 := (cell_of qr 4).trans rfl
        have f0 := frozen_of qr 0
        have f1 := frozen_of qr 1
        have f2 := frozen_of qr 2
        have f3 := frozen_of qr 3
        have f4 := frozen_of qr 4
        clear hfe
        have hEr : Ext w wr := Below.trans hE2 (hM.below (B := w.heap.size) (by omega) (fun k hk => by obtain ⟨n, hn, rfl⟩ := hk; have := (hF n hn).2.2; omega))
        have tri : ∃ lo2 hi2, min (ka % KN) (kb % KN) = lo2 ∧ max (ka % KN) (kb % KN) = hi2 ∧ ((((kb % KN < ka % KN) = False) ∧ ((ka % KN < kb % KN) = True) ∧ ka % KN = lo2 ∧ kb % KN = hi2) ∨ (((kb % KN < ka % KN) = False) ∧ ((ka % KN < kb % KN) = False) ∧ ka % KN = lo2 ∧ lo2 = hi2) ∨ (((kb % KN < ka % KN) = True) ∧ ((ka % KN < kb % KN) = False) ∧ kb % KN = lo2 ∧ ka % KN = hi2)) := by
          refine ⟨_, _, rfl, rfl, ?_⟩
          rcases Int.lt_trichotomy (ka % KN) (kb % KN) with h | h | h
          · exact .inl ⟨eq_false (by omega), eq_true h, by omega, by omega⟩
          · exact .inr (.inl ⟨eq_false (by omega), eq_false (by omega), by omega, by omega⟩)
          · exact .inr (.inr ⟨eq_true h, eq_false (by omega), by omega, by omega⟩)
        obtain ⟨lo2, hi2, hmn, hmx, tri⟩ := tri
        have hend : ∀ Wf : World, Ext w Wf → (∀ j, j ≠ w.heap.size + 1 → Wf.heap[j]? = wr.heap[j]?) → KFed16Post w C us ka kb (.returned (.tuple #[.pointer (some ⟨s, 0, none⟩), .agg #[.int .i64 C.bits, .int .i64 C.rows, .int .i64 C.width, .int .i64 C.mode, .int .u64 C.seed], .int .u64 lo2, .int .u64 hi2])) Wf := by
          intro Wf hEf hof
          refine ⟨s, g, L, by rw [HKN.out, hmn, hmx], ?_, by omega, by omega, fun n hn => ?_, hEf⟩
          · rw [HBT.out, ← HFE.out]
            have hlo : ∀ k, k ≠ w.heap.size + 1 → Wf.heap[k]? = wr.heap[k]? := hof
            refine ⟨by rw [hlo s (by omega)]; exact hK.ex, by rw [hlo g (by omega)]; exact hK.row, fun n hn => (hK.lev n hn).keep (hlo _ ?_) (hlo _ ?_) (hlo _ ?_), hK.sep, hK.ok, hK.hB⟩
            all_goals
              have := hF n hn
              omega
          · have := hF n (by rw [HBT.out] at hn; exact hn)
            omega
        have HEND := Lib.hid hend
        have HK := Lib.hid hK
        clear hend hK hmn hmx
        obtain ⟨t1, t2, t3, t4⟩ | ⟨t1, t2, t3, t4⟩ | ⟨t1, t2, t3, t4⟩ := tri
        all_goals
         have HT := Lib.hid (And.intro t3 t4)
         clear t3 t4
         have hka0 := hka.1
         have hka1 := hka.2
         have hkb0 := hkb'.1
         have hkb1 := hkb'.2
         by_cases hg1 : k < us.length
         · have hg2 : ¬ k < 60 := fun h => hgo ⟨hg1, h⟩
           go_wp2
           have hC0 := af_drew wr
           refine pi_start (fun w' => ∃ x : After wr, w' = x.w) [17] (by kernel_rfl) ?_
           refine pi_t 0 rfl (by kernel_rfl) (by kernel_rfl) (fun _ _ _ _ h => h) (fun K hK => ?_)
           go_big_quiet_op
           refine hK _ ?_
           clear hK K
           refine pi_t 2 rfl (by kernel_rfl) (by kernel_rfl) (fun _ _ _ _ h => h) (fun K hK => ?_)
           go_big_quiet_op
           refine hK _ ?_
           clear hK K
           refine pi_t 3 rfl (by kernel_rfl) (by kernel_rfl) (fun _ _ _ _ h => h) (fun K hK => ?_)
           go_big_quiet_op
           refine hK _ ?_
           clear hK K
           refine pi_t 4 rfl (by kernel_rfl) (by kernel_rfl) (fun _ _ _ _ h => h) (fun K hK => ?_)
           go_big_quiet_op
           refine hK _ ?_
           clear hK K
           refine pi_t 5 rfl (by kernel_rfl) (by kernel_rfl) (fun _ _ _ _ h => h) (fun K hK => ?_)
           go_big_quiet_op
           refine hK _ ?_
           clear hK K
           refine pi_t 6 rfl (by kernel_rfl) (by kernel_rfl) (fun _ _ _ _ h => h) (fun K hK => ?_)
           go_big_quiet_op
           refine hK _ ?_
           clear hK K
           refine pi_t 7 rfl (by kernel_rfl) (by kernel_rfl) (fun _ _ _ _ h => h) (fun K hK => ?_)
           go_big_quiet_op
           refine hK _ ?_
           clear hK K
           refine pi_t 8 rfl (by kernel_rfl) (by kernel_rfl) (fun _ _ _ _ h => h) (fun K hK => ?_)
           go_big_quiet_op
           refine hK _ ?_
           clear hK K
           refine pi_t 9 rfl (by kernel_rfl) (by kernel_rfl) (fun _ _ _ _ h => h) (fun K hK => ?_)
           go_big_quiet_op
           refine hK _ ?_
           clear hK K
           refine pi_t 10 rfl (by kernel_rfl) (by kernel_rfl) (fun _ _ _ _ h => h) (fun K hK => ?_)
           go_big_quiet_op
           refine hK _ ?_
           clear hK K
           refine pi_t 11 rfl (by kernel_rfl) (by kernel_rfl) (fun _ _ _ _ h => h) (fun K hK => ?_)
           go_big_quiet_op
           refine hK _ ?_
           clear hK K
           refine pi_t 12 rfl (by kernel_rfl) (by kernel_rfl) (fun _ _ _ _ h => h) (fun K hK => ?_)
           go_big_quiet_op
           refine hK _ ?_
           clear hK K
           refine pi_t 13 rfl (by kernel_rfl) (by kernel_rfl) (fun _ _ _ _ h => h) (fun K hK => ?_)
           go_big_quiet_op
           refine hK _ ?_
           clear hK K
           refine pi_t 14 rfl (by kernel_rfl) (by kernel_rfl) (fun _ _ _ _ h => h) (fun K hK => ?_)
           go_big_quiet_op
           refine hK _ ?_
           clear hK K
           refine pi_t 15 rfl (by kernel_rfl) (by kernel_rfl) (fun _ _ _ _ h => h) (fun K hK => ?_)
           go_big_quiet_op
           refine hK _ ?_
           clear hK K
           refine pi_t 16 rfl (by kernel_rfl) (by kernel_rfl) (fun _ _ _ _ h => h) (fun K hK => ?_)
           go_big_quiet_op
           refine hK _ ?_
           clear hK K
           refine pi_c 1 (by assumption) rfl (by kernel_rfl) (by kernel_rfl) (fun _ _ _ _ h => h) (fun K hK => ?_)
           go_big_quiet_op
           refine hK _ ?_
           clear hK K
           refine pi_l 17 rfl (by kernel_rfl) (fun K hK => ?_)
           go_wp2
           refine hK _ _ (by simp) ?_
           clear hK K
           refine pi_t 18 rfl (by kernel_rfl) (by kernel_rfl) (fun _ _ _ _ h => h) (fun K hK => ?_)
           go_big_quiet_op
           refine hK _ ?_
           clear hK K
           refine pi_t 19 rfl (by kernel_rfl) (by kernel_rfl) (fun _ _ _ _ h => h) (fun K hK => ?_)
           go_big_quiet_op
           refine hK _ ?_
           clear hK K
           refine pi_end (by kernel_rfl) ?_
           go_wp2_with fail
           refine fin5 (Φ := fun W' => bodyPost _ _ _ _ _ W'.drew) (w := w) (W := wr) qr hEr (by omega) ?_
           intro Wf hf hE5 hof _
           have q0 := (cell_of hf 0).trans rfl
           have q1 := (cell_of hf 1).trans rfl
           have q2 := (cell_of hf 2).trans rfl
           have q3 := (cell_of hf 3).trans rfl
           have q4 := (cell_of hf 4).trans rfl
           exact bodyPost_ret (v := .tuple #[.pointer (some ⟨s, 0, none⟩), .agg #[.int .i64 C.bits, .int .i64 C.rows, .int .i64 C.width, .int .i64 C.mode, .int .u64 C.seed], .int .u64 lo2, .int .u64 hi2]) (by simp [results, Try.results5, go_sem, q0, q1, q2, q3, q4, HT.out]) rfl (HEND.out _ (Below.drew hE5) hof)
         · go_wp2
           have hC0 := af_drew wr
           refine pi_start (fun w' => ∃ x : After wr, w' = x.w) [17] (by kernel_rfl) ?_
           refine pi_t 0 rfl (by kernel_rfl) (by kernel_rfl) (fun _ _ _ _ h => h) (fun K hK => ?_)
           go_big_quiet_op
           refine hK _ ?_
           clear hK K
           refine pi_t 2 rfl (by kernel_rfl) (by kernel_rfl) (fun _ _ _ _ h => h) (fun K hK => ?_)
           go_big_quiet_op
           refine hK _ ?_
           clear hK K
           refine pi_t 3 rfl (by kernel_rfl) (by kernel_rfl) (fun _ _ _ _ h => h) (fun K hK => ?_)
           go_big_quiet_op
           refine hK _ ?_
           clear hK K
           refine pi_t 4 rfl (by kernel_rfl) (by kernel_rfl) (fun _ _ _ _ h => h) (fun K hK => ?_)
           go_big_quiet_op
           refine hK _ ?_
           clear hK K
           refine pi_t 5 rfl (by kernel_rfl) (by kernel_rfl) (fun _ _ _ _ h => h) (fun K hK => ?_)
           go_big_quiet_op
           refine hK _ ?_
           clear hK K
           refine pi_t 6 rfl (by kernel_rfl) (by kernel_rfl) (fun _ _ _ _ h => h) (fun K hK => ?_)
           go_big_quiet_op
           refine hK _ ?_
           clear hK K
           refine pi_t 7 rfl (by kernel_rfl) (by kernel_rfl) (fun _ _ _ _ h => h) (fun K hK => ?_)
           go_big_quiet_op
           refine hK _ ?_
           clear hK K
           refine pi_t 8 rfl (by kernel_rfl) (by kernel_rfl) (fun _ _ _ _ h => h) (fun K hK => ?_)
           go_big_quiet_op
           refine hK _ ?_
           clear hK K
           refine pi_t 9 rfl (by kernel_rfl) (by kernel_rfl) (fun _ _ _ _ h => h) (fun K hK => ?_)
           go_big_quiet_op
           refine hK _ ?_
           clear hK K
           refine pi_t 10 rfl (by kernel_rfl) (by kernel_rfl) (fun _ _ _ _ h => h) (fun K hK => ?_)
           go_big_quiet_op
           refine hK _ ?_
           clear hK K
           refine pi_t 11 rfl (by kernel_rfl) (by kernel_rfl) (fun _ _ _ _ h => h) (fun K hK => ?_)
           go_big_quiet_op
           refine hK _ ?_
           clear hK K
           refine pi_t 12 rfl (by kernel_rfl) (by kernel_rfl) (fun _ _ _ _ h => h) (fun K hK => ?_)
           go_big_quiet_op
           refine hK _ ?_
           clear hK K
           refine pi_t 13 rfl (by kernel_rfl) (by kernel_rfl) (fun _ _ _ _ h => h) (fun K hK => ?_)
           go_big_quiet_op
           refine hK _ ?_
           clear hK K
           refine pi_t 14 rfl (by kernel_rfl) (by kernel_rfl) (fun _ _ _ _ h => h) (fun K hK => ?_)
           go_big_quiet_op
           refine hK _ ?_
           clear hK K
           refine pi_t 15 rfl (by kernel_rfl) (by kernel_rfl) (fun _ _ _ _ h => h) (fun K hK => ?_)
           go_big_quiet_op
           refine hK _ ?_
           clear hK K
           refine pi_t 16 rfl (by kernel_rfl) (by kernel_rfl) (fun _ _ _ _ h => h) (fun K hK => ?_)
           go_big_quiet_op
           refine hK _ ?_
           clear hK K
           refine pi_c 1 (by assumption) rfl (by kernel_rfl) (by kernel_rfl) (fun _ _ _ _ h => h) (fun K hK => ?_)
           go_big_quiet_op
           refine hK _ ?_
           clear hK K
           refine pi_l 17 rfl (by kernel_rfl) (fun K hK => ?_)
           go_wp2
           refine hK _ _ (by simp) ?_
           clear hK K
           refine pi_t 18 rfl (by kernel_rfl) (by kernel_rfl) (fun _ _ _ _ h => h) (fun K hK => ?_)
           go_big_quiet_op
           refine hK _ ?_
           clear hK K
           refine pi_t 19 rfl (by kernel_rfl) (by kernel_rfl) (fun _ _ _ _ h => h) (fun K hK => ?_)
           go_big_quiet_op
           refine hK _ ?_
           clear hK K
           refine pi_end (by kernel_rfl) ?_
           go_wp2_with fail
           refine fin5 (Φ := fun W' => bodyPost _ _ _ _ _ W'.drew) (w := w) (W := wr) qr hEr (by omega) ?_
           intro Wf hf hE5 hof _
           have q0 := (cell_of hf 0).trans rfl
           have q1 := (cell_of hf 1).trans rfl
           have q2 := (cell_of hf 2).trans rfl
           have q3 := (cell_of hf 3).trans rfl
           have q4 := (cell_of hf 4).trans rfl
           exact bodyPost_ret (v := .tuple #[.pointer (some ⟨s, 0, none⟩), .agg #[.int .i64 C.bits, .int .i64 C.rows, .int .i64 C.width, .int .i64 C.mode, .int .u64 C.seed], .int .u64 lo2, .int .u64 hi2]) (by simp [results, Try.results5, go_sem, q0, q1, q2, q3, q4, HT.out]) rfl (HEND.out _ (Below.drew hE5) hof)
end Go.Proofs.Ytfhdjekpdifajaa
namespace Go.Proofs.Ytfhdjekpdifajaa
set_option linter.unusedVariables false
open Go.RowKit
theorem cv_take_bd {C : Cfg} {B : Nat} (hB : B ≤ 59) (us : List (Int × Int)) (lo hi : Int) (k : Nat) : -7850513022320640 ≤ lsum ((cvV (ptK C B us) B lo hi).take k) ∧ lsum ((cvV (ptK C B us) B lo hi).take k) ≤ 7850513022320640 := by
  have h := lsum_bd (l := (cvV (ptK C B us) B lo hi).take k) (B := 65970697666560) (by decide) (fun x hx => by
    have hx := List.mem_of_mem_take hx
    unfold cvV at hx
    simp only [List.mem_map] at hx
    obtain ⟨p, _, rfl⟩ := hx
    exact ptK_bnd C B us _ _)
  have hl : (cvV (ptK C B us) B lo hi).length ≤ 2 * B + 1 := by unfold cvV; rw [List.length_map]; exact cov_len B 0 lo hi
  have hl2 := List.length_take_le' k (cvV (ptK C B us) B lo hi)
  omega
theorem pcs_at {w : World} {base : Nat} {p : Option Addr} {n c : Nat} {ps : List (Nat × Int)} (h : w.ownsRow base 41 2 (.slice p n c) n (pcV ps)) {k : Nat} (hk : k < ps.length) :
    ∃ g, p = some ⟨g, 0, none⟩ ∧ g < w.heap.size ∧ w.cell? ⟨g, k * 2, none⟩ = some (.int .i64 ((ps.getD k (0, 0)).1 : Int)) ∧ w.cell? ⟨g, k * 2 + 1, none⟩ = some (.int .u64 (ps.getD k (0, 0)).2) := by
  obtain ⟨h1, h2⟩ := h
  rw [pcV_len] at h1
  rcases h2 with ⟨_, h3⟩ | ⟨g, cap, cur, hv, hb, hh, hc, _, hs, ht⟩
  · omega
  · obtain ⟨rfl, _⟩ := Value.slice.inj hv
    obtain ⟨a1, a2⟩ := pcV_at hk
    rw [← ht] at a1 a2
    rw [List.getElem?_take_of_lt (by omega)] at a1 a2
    simp only [Array.getElem?_toList] at a1 a2
    refine ⟨g, rfl, lt_of hh, ?_, ?_⟩
    · rw [cell_of hh]; exact a1
    · rw [cell_of hh]; exact a2
theorem cv_getD {pt : Nat → Int → Int} {B : Nat} {lo hi : Int} {k : Nat} (hk : k < (covL B 0 lo hi).length) : (cvV pt B lo hi).getD k 0 = pt ((covL B 0 lo hi).getD k (0, 0)).1 ((covL B 0 lo hi).getD k (0, 0)).2 := by
  unfold cvV
  simp [List.getD, hk]
set_option maxRecDepth 20000 in
set_option maxHeartbeats 16000000 in
theorem SSumsL_c (x : Cfg) (hx : x.Raw) (ka : Int) (hka : U64 ka) (kb : Int) (hkb : U64 kb) (us : List (Int × Int)) (hus : UpsOk us) (v : Value) (w : World) (hv : UpsAt w v us) (hul : us.length ≤ 140737488355328) :
    Calls Try.prog 3 #[.agg #[.int .i64 x.bits, .int .i64 x.rows, .int .i64 x.width, .int .i64 x.mode, .int .u64 x.seed, v], .int .u64 ka, .int .u64 kb] w fun e w' => e = .returned (.bool true) ∧ Ext w w' := by
  obtain ⟨vp, vc, rfl⟩ := hv.sl
  have HV := Lib.hid hv
  clear hv
  go_enter Try.func3, Try.ntmps3
  go_wp2_with fail
  refine (shown16_c _).mono ?_
  rintro e w1 ⟨rfl, hb1⟩
  have hE1 : Ext w w1 := by (repeat' (first | exact Ext.refl _ | assumption | apply Ext.allocR | apply Ext.drewR | apply Ext.drewNR | (refine Ext.trans' ?_ (by assumption))))
  have hP1 := hb1.keep (heap_at w (.cells #[.int .i64 x.bits, .int .i64 x.rows, .int .i64 x.width, .int .i64 x.mode, .int .u64 x.seed, .slice vp us.length vc] 27) rfl)
  have p0 := (cell_of hP1 0).trans rfl
  have p1 := (cell_of hP1 1).trans rfl
  have p2 := (cell_of hP1 2).trans rfl
  have p3 := (cell_of hP1 3).trans rfl
  have p4 := (cell_of hP1 4).trans rfl
  have p5 := (cell_of hP1 5).trans rfl
  have pl := lt_of hP1
  clear hb1
  go_wp2_with fail
  refine Calls.mono (fed16_c x hx 10 (by decide) (by decide) 1 (by decide) (by decide) ka kb hka hkb us hus _ _ (HV.out.ext hE1) hul) ?_
  rintro e w2 ⟨s, g, L, rfl, hK, hs, hg, hF, hx2⟩
  have hok := kcfg_ok x hx.s (nb := 10) (m := 1) (by decide) (by decide) (by decide)
  have hmd : (kcfg x 10 1).mode = 1 := (kcfg_pos x 10 (m := 1) (by decide)).2.2.2.2.symm
  generalize kcfg x 10 1 = C at *
  have hb1 := hok.b1
  have hb2 := hok.b2
  obtain ⟨B, hB⟩ : ∃ B : Nat, C.bits = B := ⟨C.bits.toNat, by omega⟩
  have hBt : C.bits.toNat = B := by omega
  have hBd : B ≤ 59 := by omega
  rw [hBt] at hK
  have hE2 : Ext w w2 := by (repeat' (first | exact Ext.refl _ | assumption | apply Ext.allocR | apply Ext.drewR | apply Ext.drewNR | (refine Ext.trans' ?_ (by assumption))))
  have hP2 := hx2.keep hP1
  have hkp := keys0_pow hB
  have hpw := pow_bd B hBd
  have hmod1 := Int.emod_lt_of_pos ka (b := keys C 0) (by omega)
  have hmod2 := Int.emod_lt_of_pos kb (b := keys C 0) (by omega)
  have hmod3 := Int.emod_nonneg ka (b := keys C 0) (by omega)
  have hmod4 := Int.emod_nonneg kb (b := keys C 0) (by omega)
  generalize ka % keys C 0 = A at *
  generalize kb % keys C 0 = D at *
  obtain ⟨lo, hlo⟩ : ∃ lo, min A D = lo := ⟨_, rfl⟩
  obtain ⟨hi, hhi⟩ : ∃ hi, max A D = hi := ⟨_, rfl⟩
  have h0 : 0 ≤ lo := by omega
  have h1 : lo ≤ hi := by omega
  have h2 : hi < 2 ^ B := by omega
  have hhi64 : U64 hi := by unfold U64; omega
  have hlo64 : U64 lo := by unfold U64; omega
  rw [hlo, hhi]
  have hI1 := cv_I64 (C := C) hBd us lo hi
  have hR : ∀ W', Ext w2 W' → Calls Try.prog 9 #[.pointer (some ⟨s, 0, none⟩), .int .u64 lo, .int .u64 hi] W' (fun e w' => e = .returned (.tuple #[.int .i64 (lsum (cvV (ptK C B us) B lo hi)), .int .i64 0]) ∧ Ext W' w') := fun W' h => (Range_c s g C B L _ W' (hK.ext h) _ (uniq_fed C B us) (ptK_I64 C B us) lo hi hlo64 hhi64).mono fun e w' h => range_ok h h1 h2 hI1
  have hPA := fun W' (h : Ext w2 W') => Parts_c s g C B L _ W' (hK.ext h) _ (uniq_fed C B us) lo hi hlo64 hhi64
  have hRC := fun W' => RCover_c B (by omega) hBd lo hi hlo64 hhi64 W'
  have hbd := cov_bd B 0 lo hi h0 h1 h2
  have hlv := cov_lev B 0 lo hi
  have hGU : ∀ p ∈ covL B 0 lo hi, p.1 ≤ B ∧ 0 ≤ p.2 ∧ p.2 < keys C p.1 ∧ guessK C us p.1 p.2 = ptK C B us p.1 p.2 := fun p hp => by
    have hb := hbd p hp
    have hl := hlv p hp
    have hk : p.2 < keys C p.1 := by
      unfold keys
      rw [hB, show ((B : Int) - (p.1 : Int)).toNat = 0 + B - p.1 by omega]
      exact hb.2
    exact ⟨by omega, hb.1, hk, (ptK_lin hok hB hus hmd (by omega) hb.1 hk).symm⟩
  have HU2 := Lib.hid (HV.out.ext hE2)
  have HBB := Lib.hid (And.intro hB (And.intro h1 h2))
  have HOK := Lib.hid hok
  have HR := Lib.hid hR
  have HPA := Lib.hid hPA
  have HRC := Lib.hid hRC
  have HGU := Lib.hid hGU
  have hblen := cov_len B 0 lo hi
  clear p0 p1 p2 p3 p4 p5 pl hP1 hx2 hE1 hs hg hF hBt hmd hK hkp hmod1 hmod2 hmod3 hmod4 hlo hhi hR hPA hRC hGU hI1 hbd hlv hok h0 h1 h2 hpw hb1 hb2 hB
  go_upto_region 3 with (fail)
  obtain ⟨w3, hw3⟩ : ∃ w3, w2.alloc (.cells #[.int .i64 C.bits, .int .i64 C.rows, .int .i64 C.width, .int .i64 C.mode, .int .u64 C.seed] 24) = w3 := ⟨_, rfl⟩
  have hx3 : Ext w2 w3 := by rw [← hw3]; exact Ext.alloc' _ _
  have hC3 : CfgAt w3 w2.heap.size C := by rw [← hw3]; exact CfgAt.box C _ rfl
  rw [hw3]
  clear hw3
  have hP3 := hx3.keep hP2
  have c0 := hC3.c0.trans (show _ = some (Value.int .i64 B) by rw [HBB.out.1])
  have cl := hC3.lt
  have HC3 := Lib.hid hC3
  have HP3 := Lib.hid hP3
  clear hP2 hC3 hP3
  go_wp2_with fail
  refine Calls.mono (HRC.out _) ?_
  rintro e w4 (⟨hc, _⟩ | ⟨_, v4, rfl, ho4, hx4⟩)
  · have := HBB.out.2; omega
  generalize hpsd : covL B 0 lo hi = ps at *
  have HPS := Lib.hid hpsd
  generalize hnp : ps.length = np at *
  have HNP := Lib.hid hnp
  obtain ⟨p4, k4, rfl⟩ := own_sl ho4
  have hE4 := hx3.trans' hx4
  have HO4 := Lib.hid ho4
  clear ho4 c0 cl hpsd hnp
  go_wp2_with fail
  refine Calls.mono (HPA.out _ hE4) ?_
  rintro e w5 (⟨hc, _⟩ | ⟨hc, _⟩ | ⟨_, v5, rfl, ho5, hx5⟩)
  · have := HBB.out.2; omega
  · have := HBB.out.2; omega
  have hcl : (cvV (ptK C B us) B lo hi).length = np := by unfold cvV; rw [List.length_map, HPS.out, HNP.out]
  rw [hcl] at ho5
  obtain ⟨p5, k5, rfl⟩ := own_sl ho5
  have hE5 := hE4.trans' hx5
  have HI5 := Lib.hid (IntsAt.of_row ho5)
  have HO5 := Lib.hid (own_ext HO4.out hx5)
  have HC5 := Lib.hid (HC3.out.ext (hx4.trans' hx5))
  have HP5 := Lib.hid ((hx4.trans' hx5).keep HP3.out)
  have HCL := Lib.hid hcl
  have HU5 := Lib.hid (HU2.out.ext hE5)
  have HR5 := Lib.hid (fun W' (h : Ext w5 W') => HR.out W' (hE5.trans' h))
  have HE5 := Lib.hid (hE2.trans' hE5)
  clear ho5 hx5 hx4 hE4 hx3 hcl HPA HRC HO4 HC3 HP3 HU2 HR hE5 hE2
  have hTB := fun k => cv_take_bd (C := C) hBd us lo hi k
  have HTB := Lib.hid hTB
  clear hTB
  go_wp2_with fail
  go_loopw [14, 17] (fun u14 u17 wr => ∃ k : Nat, k ≤ np ∧ u17 = .int .i64 k ∧ u14 = .int .i64 (lsum ((cvV (ptK C B us) B lo hi).take k)) ∧ Ext w5 wr) (fun _ u17 _ => np - (intOf u17).toNat)
  case atStart => exact ⟨0, Nat.zero_le _, rfl, rfl, Ext.refl _⟩
  case round =>
    obtain ⟨k, hk, rfl, rfl, hE⟩ := hrel
    obtain ⟨hs1, hs2⟩ := HTB.out k
    by_cases hlt : k < np
    · have hkp : k < ps.length := by rw [HNP.out]; exact hlt
      have hkc : k < (cvV (ptK C B us) B lo hi).length := by rw [HCL.out]; exact hlt
      obtain ⟨g4, rfl, hg4, d0, d1⟩ := pcs_at (own_ext HO5.out hE) hkp
      obtain ⟨g5, o5, rfl, hg5, q5⟩ := ints_atG (HI5.out.ext hE) hlt
      have hgu := HGU.out (ps.getD k (0, 0)) (by simp [List.getD, hkp])
      have hcg := cv_getD (pt := ptK C B us) (B := B) (lo := lo) (hi := hi) (k := k) (by rw [HPS.out]; exact hkp)
      rw [HPS.out] at hcg
      have hsn := lsum_snoc hkc
      rw [hcg] at q5 hsn
      rw [← hgu.2.2.2] at q5 hsn
      have hpb := ptK_bnd C B us (ps.getD k (0, 0)).1 (ps.getD k (0, 0)).2
      rw [← hgu.2.2.2] at hpb
      generalize ps.getD k (0, 0) = pp at *
      obtain ⟨pn, pi⟩ := pp
      dsimp only at d0 d1 q5 hsn hgu hpb
      have hBC := HBB.out.1
      have hGE : ∀ W', Ext wr W' → Calls Try.prog 8 #[.agg #[.int .i64 C.bits, .int .i64 C.rows, .int .i64 C.width, .int .i64 C.mode, .int .u64 C.seed], .slice vp us.length vc, .agg #[.int .i64 pn, .int .u64 pi]] W' (fun e w' => e = .returned (.int .i64 (guessK C us pn pi)) ∧ Ext W' w') := fun W' h => Guess_c us hus (.slice vp us.length vc) C HOK.out pn (by omega) pi hgu.2.1 hgu.2.2.1 W' (HU5.out.ext (hE.trans' h)) hul
      have hC := HC5.out.ext hE
      have hP := hE.keep HP5.out
      have c0 := hC.c0
      have c1 := hC.c1
      have c2 := hC.c2
      have c3 := hC.c3
      have c4 := hC.c4
      have cl := hC.lt
      have p5' := (cell_of hP 5).trans rfl
      have pl := lt_of hP
      obtain ⟨hb1, hb2⟩ := hpb
      have HSN := Lib.hid hsn
      clear hgu hsn hcg hkp hkc hC hP hBC
      generalize guessK C us pn pi = gs at *
      generalize lsum ((cvV (ptK C B us) B lo hi).take k) = sm at *
      go_wp2
      refine wp_region_after (by kernel_rfl) (by kernel_rfl) ?_
      repeat (go_big_quiet_step ((go_at_call 8; with_reducible exact quiet_after (hGE _ (After.h _)))))
      refine wpQuiet_nil ?_
      rintro _ ⟨xx, rfl⟩
      obtain ⟨w7, hb7⟩ := xx
      try dsimp only
      have hE7 := hE.trans' hb7
      have q5' := ((bcell hb7).1 _ _ hg5).trans q5
      have hg5' := Nat.lt_of_lt_of_le hg5 hb7.size
      clear hGE hb7 c0 c1 c2 c3 c4 cl p5' pl d0 d1 q5 hg5
      go_wp2
      go_roundw
      case rel => exact ⟨k + 1, by omega, by go_num, by rw [HSN.out], hE7⟩
      case measure => simp [intOf] <;> omega
    · obtain rfl : k = np := by omega
      have hall : (cvV (ptK C B us) B lo hi).take k = cvV (ptK C B us) B lo hi := List.take_of_length_le (by rw [HCL.out]; exact Nat.le_refl _)
      rw [hall] at hs1 hs2 ⊢
      have hRr := HR5.out _ hE
      generalize lsum (cvV (ptK C B us) B lo hi) = T at *
      have HRR := Lib.hid hRr
      clear hRr hall
      go_wp2_with fail
      refine Calls.mono HRR.out ?_
      rintro e w8 ⟨rfl, hx8⟩
      go_wp2
      go_ret
      exact ⟨rfl, HE5.out.trans' (hE.trans' hx8)⟩
end Go.Proofs.Ytfhdjekpdifajaa
namespace Go.Proofs.Ytfhdjekpdifajaa
set_option linter.unusedVariables false
open Go.ChangeShapes Go.WideShapes Go.ChangeAt Go.RowKit Go.Deep
theorem wf_u64 {x : Int} (h : (Lit.int IntKind.u64 x).wf = true) : U64 x := by
  have := bounds_u64 h
  exact ⟨this.1, by omega⟩
theorem wf_i64 {x : Int} (h : (Lit.int IntKind.i64 x).wf = true) : I64 x := by
  have := bounds_i64 h
  exact ⟨this.1, by omega⟩
section
variable {H : Type} {enc : TypeId × Value → H} {w : World} {base : Nat} {spare : Nat → Bool} {held : Bool}
set_option maxRecDepth 100000 in
/-- Five cells that read as a config. -/
theorem cfg_of {n : Nat} {cs : List Value} {y : DataW H × List MemPlace} (h : DataW.trod enc Try.prog w base spare held n 24 cs = some y) :
    ∃ C : Cfg, C.Raw ∧ cs = [.int .i64 C.bits, .int .i64 C.rows, .int .i64 C.width, .int .i64 C.mode, .int .u64 C.seed] := by
  obtain ⟨xs, n, _, _, hl, hx, hg⟩ := DataW.trod_struct Try.underlying24 h
  have hl' : cs.length = 5 := hl.trans (by kernel_rfl)
  match cs, hl' with
  | [c0, c1, c2, c3, c4], _ =>
    have hx' : xs.length = 5 := hx.trans (by kernel_rfl)
    match xs, hx' with
    | [x0, x1, x2, x3, x4], _ =>
      have e0 : DataW.trod enc Try.prog w base spare held n 3 [c0] = some x0 := hg 0 _ rfl
      have e1 : DataW.trod enc Try.prog w base spare held n 3 [c1] = some x1 := hg 1 _ rfl
      have e2 : DataW.trod enc Try.prog w base spare held n 3 [c2] = some x2 := hg 2 _ rfl
      have e3 : DataW.trod enc Try.prog w base spare held n 3 [c3] = some x3 := hg 3 _ rfl
      have e4 : DataW.trod enc Try.prog w base spare held n 22 [c4] = some x4 := hg 4 _ rfl
      obtain ⟨a0, h0, _, w0⟩ := DataW.trod_int Try.underlying3 e0
      obtain ⟨a1, h1, _, w1⟩ := DataW.trod_int Try.underlying3 e1
      obtain ⟨a2, h2, _, w2⟩ := DataW.trod_int Try.underlying3 e2
      obtain ⟨a3, h3, _, w3⟩ := DataW.trod_int Try.underlying3 e3
      obtain ⟨a4, h4, _, w4⟩ := DataW.trod_int Try.underlying22 e4
      simp only [List.cons.injEq, and_true] at h0 h1 h2 h3 h4
      exact ⟨⟨a0, a1, a2, a3, a4⟩, ⟨wf_i64 w0, wf_i64 w1, wf_i64 w2, wf_i64 w3, wf_u64 w4⟩, by rw [h0, h1, h2, h3, h4]⟩
set_option maxRecDepth 100000 in
/-- Two cells that read as an update. -/
theorem upd_of {n : Nat} {cs : List Value} {y : DataW H × List MemPlace} (h : DataW.trod enc Try.prog w base spare held n 53 cs = some y) :
    ∃ u : Int × Int, (U64 u.1 ∧ I64 u.2) ∧ cs = [.int .u64 u.1, .int .i64 u.2] := by
  obtain ⟨xs, n, _, _, hl, hx, hg⟩ := DataW.trod_struct Try.underlying53 h
  have hl' : cs.length = 2 := hl.trans (by kernel_rfl)
  match cs, hl' with
  | [c0, c1], _ =>
    have hx' : xs.length = 2 := hx.trans (by kernel_rfl)
    match xs, hx' with
    | [x0, x1], _ =>
      have e0 : DataW.trod enc Try.prog w base spare held n 22 [c0] = some x0 := hg 0 _ rfl
      have e1 : DataW.trod enc Try.prog w base spare held n 2 [c1] = some x1 := hg 1 _ rfl
      obtain ⟨a0, h0, _, w0⟩ := DataW.trod_int Try.underlying22 e0
      obtain ⟨a1, h1, _, w1⟩ := DataW.trod_int Try.underlying2 e1
      simp only [List.cons.injEq, and_true] at h0 h1
      exact ⟨(a0, a1), ⟨wf_u64 w0, wf_i64 w1⟩, by rw [h0, h1]⟩
theorem add_plain0 (b off i : Nat) : (Addr.add ⟨b, off, none⟩ i) = ⟨b, off + i, none⟩ := by
  unfold Addr.add
  by_cases h : i = 0
  · subst h; simp
  · simp [h]
theorem choose_list {α : Type} (P : Nat → α → Prop) : ∀ n, (∀ i, i < n → ∃ x, P i x) → ∃ l : List α, l.length = n ∧ ∀ i (h : i < l.length), P i l[i] := by
  intro n
  induction n with
  | zero => intro _; exact ⟨[], rfl, fun i h => by simp at h⟩
  | succ n ih =>
    intro h
    obtain ⟨l, hl, hP⟩ := ih (fun i hi => h i (by omega))
    obtain ⟨x, hx⟩ := h n (by omega)
    refine ⟨l ++ [x], by simp [hl], fun i hi => ?_⟩
    by_cases e : i < l.length
    · rw [List.getElem_append_left e]; exact hP i e
    · have : i = n := by simp at hi; omega
      subst this
      rw [List.getElem_append_right (by omega)]
      simp [hl, hx]
/-- A cell that reads as a slice of updates. -/
theorem ups_of {n : Nat} {v : Value} {y : DataW H × List MemPlace} (h : DataW.trod enc Try.prog w 0 (fun _ => true) held n 25 [v] = some y) :
    ∃ us : List (Int × Int), UpsOk us ∧ UpsAt w v us ∧ (us = [] ∨ ∃ el sp : List (DataW H), y.1 = .slice el sp ∧ el.length = us.length) := by
  rcases open_slice Try.underlying25 h with ⟨hcs, _⟩ | ⟨a, len, cap, m, n', D, Pl, hcs, _, hlc, hcm, hm, hx, hi⟩
  · simp only [List.cons.injEq, and_true] at hcs
    subst hcs
    exact ⟨[], (by intro u hu; cases hu), .inl ⟨⟨_, rfl⟩, rfl⟩, .inl rfl⟩
  · simp only [List.cons.injEq, and_true] at hcs
    subst hcs
    simp only [if_true] at hm
    rw [hm] at hi hx
    clear hm
    have hC : Try.prog.cellsOf 53 = 2 := by kernel_rfl
    rw [hC] at hi
    have key : ∀ i, i < len → ∃ u : Int × Int, (U64 u.1 ∧ I64 u.2) ∧ w.cell? (a.add (i * 2)) = some (.int .u64 u.1) ∧ w.cell? (a.add (i * 2 + 1)) = some (.int .i64 u.2) := by
      intro i hil
      obtain ⟨cs', hc, ht⟩ := hi i (by omega)
      obtain ⟨u, hu, rfl⟩ := upd_of ht
      obtain ⟨_, _, hat⟩ := World.cells?_some hc
      refine ⟨u, hu, ?_, ?_⟩
      · have := hat 0 (by omega); rw [add_add, Nat.add_zero] at this; exact this
      · have := hat 1 (by omega); rw [add_add] at this; exact this
    obtain ⟨us, hul, hus⟩ := choose_list _ len key
    by_cases h0 : cap = 0
    · have hl0 : len = 0 := by omega
      subst hl0 h0
      obtain rfl : us = [] := List.length_eq_zero_iff.1 hul
      exact ⟨[], (by intro u hu; cases hu), .inl ⟨⟨_, rfl⟩, rfl⟩, .inl rfl⟩
    · obtain ⟨cs', hc, ht⟩ := hi 0 (by omega)
      obtain ⟨u, _, rfl⟩ := upd_of ht
      obtain ⟨_, _, hat⟩ := World.cells?_some hc
      have h1 := hat 0 (by omega)
      obtain ⟨b, off, spot⟩ := a
      have hspot : spot = none := by simpa [Addr.add] using World.cell?_spot h1
      subst hspot
      have hb : b < w.heap.size := by
        rcases Nat.lt_or_ge b w.heap.size with h' | h'
        · exact h'
        · simp [World.cell?, Addr.add, Array.getElem?_eq_none h'] at h1
      refine ⟨us, ?_, .inr ⟨b, off, cap, by rw [hul], hb, fun k hk => ?_⟩, .inr ⟨_, _, by rw [hx], by simp [hul]⟩⟩
      · intro u hu
        obtain ⟨i, hi', rfl⟩ := List.getElem_of_mem hu
        exact (hus i hi').1
      · have := (hus k hk).2
        have hg : us.getD k (0, 0) = us[k] := by simp [hk]
        rw [hg]
        rw [add_plain0, add_plain0] at this
        simpa only [Nat.add_assoc] using this
theorem reach_of {ts : List TypeId} {ds : List (DataW H)} {j : Nat} {t : TypeId} {d : DataW H} (hsz : (DataW.weightsEach Try.prog ts ds).all (· ≤ reachBytes) = true) (ht : ts[j]? = some t) (hd : ds[j]? = some d) {n : Nat} (hn : n ∈ d.weights Try.prog t) : n ≤ reachBytes := by
  have := List.all_eq_true.1 hsz _ (DataW.weights_mem_each ht hd n hn)
  simpa using this
end
end Go.Proofs.Ytfhdjekpdifajaa
namespace Go.Proofs.Ytfhdjekpdifajaa
set_option linter.unusedVariables false
open Go.ChangeShapes Go.WideShapes Go.ChangeAt Go.RowKit Go.Deep
theorem own : ownKnob Try.prog.godebug = none := by kernel_rfl
theorem laidOut : laidOutB Try.prog = true := by kernel_rfl
section
variable {H : Type} {enc : TypeId × Value → H} {w : World} {held : Bool}
set_option maxRecDepth 100000 in
theorem play16_of {r : Reach} {b0 : Nat} {v : Value} {d : DataW H} {p : List MemPlace} (hv : Value.okWide Try.prog w r b0 27 v) (h : DataW.Trod enc Try.prog w 0 (fun _ => true) held 27 v d p) :
    ∃ (x : Cfg) (us : List (Int × Int)) (u : Value), x.Raw ∧ UpsOk us ∧ UpsAt w u us ∧ v = .agg #[.int .i64 x.bits, .int .i64 x.rows, .int .i64 x.width, .int .i64 x.mode, .int .u64 x.seed, u] ∧
      ∀ (ts : List TypeId) (ds : List (DataW H)) (j : Nat), (DataW.weightsEach Try.prog ts ds).all (· ≤ reachBytes) = true → ts[j]? = some 27 → ds[j]? = some d → us.length ≤ 140737488355328 := by
  obtain ⟨cs, rfl, hsz⟩ := okWide_struct Try.underlying27 hv
  obtain ⟨fuel, hf⟩ := h
  obtain ⟨l⟩ := cs
  obtain ⟨xs, n, _, hd, hl, hx, hg⟩ := DataW.trod_struct Try.underlying27 hf
  have hl' : l.length = 6 := hsz.trans (by kernel_rfl)
  match l, hl' with
  | [c0, c1, c2, c3, c4, c6], _ =>
    have hx' : xs.length = 2 := hx.trans (by kernel_rfl)
    match xs, hx' with
    | [x0, x2], _ =>
      have e0 : DataW.trod enc Try.prog w 0 (fun _ => true) held n 24 [c0, c1, c2, c3, c4] = some x0 := hg 0 _ rfl
      have e2 : DataW.trod enc Try.prog w 0 (fun _ => true) held n 25 [c6] = some x2 := hg 1 _ rfl
      obtain ⟨x, hxr, hc⟩ := cfg_of e0
      obtain ⟨us, hu, hat, hlen⟩ := ups_of e2
      simp only [List.cons.injEq, and_true] at hc
      obtain ⟨rfl, rfl, rfl, rfl, rfl⟩ := hc
      simp only [Prod.mk.injEq] at hd
      refine ⟨x, us, c6, hxr, hu, hat, rfl, fun ts ds j hs ht hj => ?_⟩
      rcases hlen with rfl | ⟨el, sp, hx2, hel⟩
      · simp
      · have hb : Try.prog.bytesOf 53 = 16 := by kernel_rfl
        have := reach_of hs ht hj (n := (el.length + sp.length) * Try.prog.bytesOf 53) (by
          rw [hd.1]
          simp [DataW.weights, DataW.weightsEach, hx2, Try.underlying27, Try.underlying25])
        rw [hb] at this
        simp only [reachBytes] at this
        omega
end
end Go.Proofs.Ytfhdjekpdifajaa
namespace Go.Proofs.Ytfhdjekpdifajaa
set_option linter.unusedVariables false
open Go.ChangeShapes Go.WideShapes Go.ChangeAt Go.RowKit
set_option maxRecDepth 100000 in
theorem spanSums_lifted (os : Os) (started : os.Started) (H : Type) (enc : TypeId × Value → H) :
    ReturnsInHanded {} Try.checked os 3 .any (Rows.spanSumsSpec.pre6 enc Try.prog Try.f3 Rows.spanSumsRow.domain false) (Rows.spanSumsSpec.post enc Try.prog Try.f3 false true false false) := by
  refine returnsInHanded_of_change_sized (C := Try.checked) own started (by kernel_rfl) Try.func3
    (ChangeSpec.witness6 (enc := enc) (C := Try.checked) false ⟨#[], #[.agg #[.int .i64 0, .int .i64 0, .int .i64 0, .int .i64 0, .int .u64 0, .slice none 0 0], .int .u64 0, .int .u64 0], []⟩ 8 (by kernel_rfl) (by kernel_rfl) (by kernel_rfl) (by kernel_rfl)) ?_
  intro W base args ds gs before hval0 hW hcnd hsz0 _
  have hval : ∀ (j : Nat) t v, Try.f3.params[j]? = some t → args[j]? = some v → Value.okWide Try.prog W .any base t v := hval0
  have hW' := hW
  obtain ⟨p, q, hA0, hV, rfl, hfz, hnd⟩ := hW
  have hA : DataW.TrodAll enc Try.prog W 0 (fun _ => true) true Try.f3.params.toList args.toList ds p := hA0
  have hsz : (DataW.weightsEach Try.prog (Try.f3.params.toList ++ Rows.spanSumsSpec.plain.varTypes Try.prog) (ds ++ gs)).all (· ≤ reachBytes) = true := hsz0
  rw [Try.params3] at hA hval hsz
  obtain ⟨v0, vs0, d0, ds0, p0, q0, hargs, rfl, rfl, h0, r0⟩ := trodAll_cons hA
  obtain ⟨v1, vs1, d1, ds1, p1, q1, rfl, rfl, rfl, h1, r1⟩ := trodAll_cons r0
  obtain ⟨v2, vs2, d2, ds2, p2, q2, rfl, rfl, rfl, h2, r2⟩ := trodAll_cons r1
  obtain ⟨rfl, rfl, rfl⟩ := trodAll_nil r2
  obtain rfl : args = #[v0, v1, v2] := by cases args; simp_all
  obtain ⟨rfl, rfl⟩ := trodVars_none hV
  have k0 := h0
  have k1 := h1
  have k2 := h2
  have lt0 : ∀ x ∈ p0, x.block < W.heap.size := by obtain ⟨m, hm⟩ := k0; exact DataW.trod_lt m _ _ _ hm
  have lt1 : ∀ x ∈ p1, x.block < W.heap.size := by obtain ⟨m, hm⟩ := k1; exact DataW.trod_lt m _ _ _ hm
  have lt2 : ∀ x ∈ p2, x.block < W.heap.size := by obtain ⟨m, hm⟩ := k2; exact DataW.trod_lt m _ _ _ hm
  obtain ⟨x0, us0, u0, hx0, hus0, hat0, rfl, hr0⟩ := play16_of (hval 0 _ v0 rfl rfl) h0
  have hul0 := hr0 _ _ 0 hsz rfl rfl
  obtain ⟨n1, rfl, _, _, wf1⟩ := open_int Try.underlying22 (hval 1 _ v1 rfl rfl) h1
  have hn1 := wf_u64 wf1
  obtain ⟨n2, rfl, _, _, wf2⟩ := open_int Try.underlying22 (hval 2 _ v2 rfl rfl) h2
  have hn2 := wf_u64 wf2
  clear hA0 hval0
  refine (SSumsL_c x0 hx0 n1 hn1 n2 hn2 us0 hus0 u0 W hat0 hul0).mono fun e W' ⟨he, bel⟩ => ?_
  subst he
  exact ⟨_, rfl, _, _, _, [], _, [], hW', trodAll_mk1 (shut_bool Try.underlying4 _), (trodAll_cons_mk (Below.trod laidOut (by kernel_rfl) (of_decide_eq_true (by kernel_rfl)) k0 bel lt0) (trodAll_cons_mk (Below.trod laidOut (by kernel_rfl) (of_decide_eq_true (by kernel_rfl)) k1 bel lt1) (trodAll_cons_mk (Below.trod laidOut (by kernel_rfl) (of_decide_eq_true (by kernel_rfl)) k2 bel lt2) trodAll_mk0))), rfl, bel.frame _, fun h => by cases h⟩
end Go.Proofs.Ytfhdjekpdifajaa
