/- Part. No condition. -/
import Derived.Test.YtfhdjekpdifajaaGreatDSummaryExact7
import Derived.Test.YtfhdjekpdifajaaGreatDSummaryExact8
import Derived.Test.YtfhdjekpdifajaaGreatDSummaryExact3
import Derived.Test.YtfhdjekpdifajaaGreatDSummaryExact4
import Derived.Test.YtfhdjekpdifajaaGreatDSummaryExact6
import Derived.Test.YtfhdjekpdifajaaGreatDSummaryExact5
import Derived.ProofKit
import Derived.OpenShut
import Derived.ChangeOld
import Derived.Below
import Derived.SizedLaws
import Derived.Deep.Slices
import Derived.Deep.Fields
import Derived.ChangeSlices
namespace Go.Proofs.YtfhdjekpdifajaaGreat
set_option linter.unusedVariables false
open Go.RowKit
set_option maxRecDepth 20000 in
set_option maxHeartbeats 4000000 in
theorem PdqQ_c (p : Option Addr) (n cap : Nat) (lim : Int) (hn : n ≤ 12) (Q : World → Prop) (w : World)
    (HI : Calls Tryz.prog 204 #[.slice p n cap, .int .i64 0, .int .i64 n, .func (.func 137) #[] #[]] w fun e w' => e = .returned (.tuple #[]) ∧ Q w') :
    Calls Tryz.prog 182 #[.slice p n cap, .int .i64 0, .int .i64 n, .int .i64 lim, .func (.func 137) #[] #[]] w fun e w' => e = .returned (.tuple #[]) ∧ Q w' := by
  have HI' := Lib.hid HI
  clear HI
  go_enter Tryz.func182, Tryz.ntmps182
  go_wp2_with fail
  refine wp_loop_rounds 1 ?_
  rw [rounds_succ]
  go_wp2_with fail
  refine Calls.mono HI'.out ?_
  rintro e w1 ⟨rfl, hq⟩
  have HQ := Lib.hid hq
  clear hq
  go_wp2
  (try simp only [Exit.inBlock, Exit.then]); refine bodyPost_ret (results_none rfl _ _ _) rfl ?_
  exact ⟨rfl, HQ.out⟩
set_option maxRecDepth 20000 in
set_option maxHeartbeats 4000000 in
theorem SortQ_c (p : Option Addr) (n cap : Nat) (hn : n ≤ 12) (Q : World → Prop) (w : World)
    (HI : Calls Tryz.prog 204 #[.slice p n cap, .int .i64 0, .int .i64 n, .func (.func 137) #[] #[]] w fun e w' => e = .returned (.tuple #[]) ∧ Q w') :
    Calls Tryz.prog 136 #[.slice p n cap, .func (.func 137) #[] #[]] w fun e w' => e = .returned (.tuple #[]) ∧ Q w' := by
  have HI' := Lib.hid HI
  clear HI
  go_enter Tryz.func136, Tryz.ntmps136
  go_wp2_with fail
  refine Calls.mono (Len_c n _ (by omega) (by omega)) ?_
  rintro e w1 ⟨rfl, rfl⟩
  go_wp2_with fail
  refine Calls.mono (PdqQ_c p n cap _ hn Q _ HI'.out) ?_
  rintro e w1 ⟨rfl, hq⟩
  have HQ := Lib.hid hq
  clear hq
  go_wp2
  go_end0
  exact ⟨rfl, HQ.out⟩
set_option maxRecDepth 20000 in
set_option maxHeartbeats 4000000 in
theorem Ins0_c (p : Option Addr) (cap : Nat) (w : World) :
    Calls Tryz.prog 204 #[.slice p 0 cap, .int .i64 0, .int .i64 0, .func (.func 137) #[] #[]] w fun e w' => e = .returned (.tuple #[]) ∧ w' = w := by
  go_enter Tryz.func204, Tryz.ntmps204
  go_wp2_with fail
  refine wp_loop_rounds 1 ?_
  rw [rounds_succ]
  go_wp2
  go_end0
  exact ⟨rfl, rfl⟩
end Go.Proofs.YtfhdjekpdifajaaGreat
namespace Go.Proofs.YtfhdjekpdifajaaGreat
set_option linter.unusedVariables false
open Go.RowKit
theorem ltC_iff (x y : Fd) : ltC x y = decide (y.2.2 < x.2.2 ∨ (y.2.2 = x.2.2 ∧ x.2.1 < y.2.1)) := by
  unfold ltC cmpV cmpI
  by_cases h1 : y.2.2 < x.2.2
  · simp [h1]
  · by_cases h2 : x.2.2 < y.2.2
    · simp [h1, h2]; omega
    · by_cases h3 : x.2.1 < y.2.1
      · simp [h1, h2, h3]; omega
      · by_cases h4 : y.2.1 < x.2.1
        · simp [h1, h2, h3, h4]
        · simp [h1, h2, h3, h4]
theorem swoC : Sort.SWO ltC where
  irrefl x := by rw [ltC_iff]; simp
  trans x y z h1 h2 := by rw [ltC_iff] at *; simp at *; omega
  ntrans x y z h1 h2 := by rw [ltC_iff] at *; simp at *; omega
/-- 'l' is 'd', sorted. -/
structure SrtOf (d l : List Fd) : Prop where
  perm : l.Perm d
  sorted : ∀ (i j : Nat) (hij : i < j) (hj : j < l.length), ltC l[j] (l[i]'(Nat.lt_trans hij hj)) = false
/-- Rows up to this length are sorted. -/
def SortsTo (N : Nat) : Prop := ∀ (base g cap : Nat) (w0 w : World) (d : Array Fd), RowD base g cap w0 w d → d.size ≤ N →
  Calls Tryz.prog 136 #[.slice (some ⟨g, 0, none⟩) d.size cap, .func (.func 137) #[] #[]] w fun e w' => e = .returned (.tuple #[]) ∧ ∃ d' : Array Fd, d'.size = d.size ∧ SrtOf d.toList d'.toList ∧ RowD base g cap w0 w' d'
theorem srt_of {d d' : Array Fd} (hp : Sort.PermIn 0 d.size d d') (hs : Sort.SortedIn ltC 0 d.size d') : d'.size = d.size ∧ SrtOf d.toList d'.toList := by
  obtain ⟨h1, _, h2⟩ := hp
  refine ⟨h1, ?_, fun i j hij hj => ?_⟩
  · rw [Array.extract_eq_self_of_le (by omega), Array.extract_eq_self_of_le (by omega)] at h2
    exact h2
  · have hj2 : j < d'.size := by rw [← Array.length_toList]; exact hj
    have := hs i j (Nat.zero_le _) hij (by omega)
    rw [getElem!_pos d' j hj2, getElem!_pos d' i (by omega)] at this
    rw [Array.getElem_toList, Array.getElem_toList]
    exact this
theorem sorts_12 : SortsTo 12 := by
  intro base g cap w0 w d h hn
  have hi := (Ins_c base g cap w0 w d 0 d.size h (Nat.zero_le _) (Nat.le_refl _) (by omega)).mono (R' := fun e w' => e = .returned (.tuple #[]) ∧ ∃ d' : Array Fd, d'.size = d.size ∧ SrtOf d.toList d'.toList ∧ RowD base g cap w0 w' d') fun e w' ⟨he, hr⟩ => by
    obtain ⟨h1, h2⟩ := Sort.insertionSort_holds swoC d 0 d.size (Nat.zero_le _) (Nat.le_refl _)
    obtain ⟨h3, h4⟩ := srt_of h1 h2
    exact ⟨he, _, h3, h4, hr⟩
  exact SortQ_c (some ⟨g, 0, none⟩) d.size cap hn _ w hi
end Go.Proofs.YtfhdjekpdifajaaGreat
namespace Go.Proofs.YtfhdjekpdifajaaGreat
set_option linter.unusedVariables false
open Go.RowKit
theorem hvGo_len (pt : Nat → Int → Int) (least budget : Int) : ∀ (m : Nat) (asked : Int) (row : List Int) (out l : List Fd), budget ≤ 4096 → (out.length : Int) ≤ asked → asked ≤ 4096 → hvGo pt least budget m asked row out = some l → l.length ≤ 4096
  | 0, asked, row, out, l, _, h1, h2, h => by
    have : out = l := Option.some.inj h
    subst this
    omega
  | m + 1, asked, row, out, l, hb, h1, h2, h => by
    by_cases hg : budget < asked + row.length
    · rw [hvGo_no hg] at h; cases h
    · rw [hvGo_yes (by omega)] at h
      have := hvF_len pt least m row
      exact hvGo_len pt least budget m _ _ _ l hb (by rw [List.length_append]; omega) (by omega) h
theorem heavyP_len (pt : Nat → Int → Int) (least budget : Int) (B : Nat) : (heavyP pt least budget B).1.length ≤ 4096 := by
  by_cases hb : least < 1 ∨ 4096 < budget
  · rw [heavyP_bad hb]; simp
  · rw [heavyP_go (by omega) (by omega)]
    match hh : hvGo pt least budget (B + 1) 0 [0] [] with
    | none => simp [hvRes]
    | some l => exact hvGo_len pt least budget _ _ _ _ l (by omega) (by simp) (by omega) hh
theorem heavyP_err (pt : Nat → Int → Int) (least budget : Int) (B : Nat) : (heavyP pt least budget B).2 = 0 ∨ (heavyP pt least budget B).1 = [] := by
  by_cases hb : least < 1 ∨ 4096 < budget
  · rw [heavyP_bad hb]; exact .inr rfl
  · rw [heavyP_go (by omega) (by omega)]
    match hvGo pt least budget (B + 1) 0 [0] [] with
    | none => exact .inr rfl
    | some l => exact .inl rfl
def TopPost (w : World) (H : List Fd × Int) (n : Int) (e : Ending) (w' : World) : Prop :=
  ∃ v S, e = .returned (.tuple #[v, .int .i64 H.2]) ∧ SrtOf (keepD H.1) S ∧ w'.ownsRow w.heap.size 130 3 v (S.take (max n 0).toNat).length (fdV (S.take (max n 0).toNat)) ∧ Ext w w'
theorem srt_nil : SrtOf [] [] := ⟨List.Perm.refl _, fun i j _ hj => by simp at hj⟩
set_option maxRecDepth 20000 in
set_option maxHeartbeats 8000000 in
theorem Top_c (N : Nat) (hS : SortsTo N) (s g : Nat) (C : Cfg) (B : Nat) (L : Nat → Lev) (ls : Nat → List Int) (w : World) (h : KAt w s g C B L ls) (pt : Nat → Int → Int) (hU : Uniq C B ls pt) (n least budget : Int)
    (hN : (keepD (heavyP pt least budget B).1).length ≤ N) :
    Calls Tryz.prog 76 #[.pointer (some ⟨s, 0, none⟩), .int .i64 n, .int .i64 least, .int .i64 budget] w (TopPost w (heavyP pt least budget B) n) := by
  have hH := Heavy_c s g C B L ls w h pt hU least budget
  have hlen := heavyP_len pt least budget B
  have herr := heavyP_err pt least budget B
  unfold HeavyPost at hH
  generalize heavyP pt least budget B = H at *
  obtain ⟨D, er⟩ := H
  dsimp only at hH hlen herr hN
  have HHV := Lib.hid hH
  have HS := Lib.hid hS
  clear hH h hU hS
  by_cases he : er = 0
  · subst he
    clear herr
    go_enter Tryz.func76, Tryz.ntmps76
    go_wp2_with fail
    refine Calls.mono HHV.out ?_
    rintro e w1 ⟨v, rfl, ho, hx1⟩
    obtain ⟨p, cap, rfl⟩ := own_sl ho
    have hdel := Delete_c w.heap.size p cap D w1 ho (by omega)
    have HDEL := Lib.hid hdel
    have HX1 := Lib.hid hx1
    clear hdel ho hx1
    generalize hld : D.length = ld at *
    go_wp2_with fail
    refine Calls.mono HDEL.out ?_
    rintro e w2 ⟨p2, cap2, rfl, ho2, hx2⟩
    have hE2 := hx2 w HX1.out (Nat.le_refl _)
    clear hx2 HDEL
    generalize hkd : keepD D = K at *
    have HKD := Lib.hid hkd
    clear hkd
    have HE2 := Lib.hid hE2
    have HO2 := Lib.hid ho2
    clear ho2 hE2
    by_cases hk : 0 < K.length
    · obtain ⟨gr, cr, hv, hb, hg, _⟩ := own_row_cells HO2.out hk
      cases hv
      have hrow : RowD w.heap.size gr cap2 w2 w2 K.toArray := ⟨by simpa using HO2.out, fun v h1 _ => h1⟩
      have hsort := HS.out w.heap.size gr cap2 w2 w2 K.toArray hrow (by simpa using hN)
      rw [show K.toArray.size = K.length by simp] at hsort
      have HSO := Lib.hid hsort
      clear hrow hsort
      generalize hlk : K.length = lk at *
      go_wp2_with fail
      refine Calls.mono HSO.out ?_
      rintro e w3 ⟨rfl, d', hd, hsr, hrow⟩
      have hown := hrow.own
      have hE3 := hrow.ext w HE2.out (Nat.le_refl _)
      rw [hd] at hown
      have HSR := Lib.hid hsr
      have HE3 := Lib.hid hE3
      have HOW := Lib.hid hown
      have HDL := Lib.hid hd
      clear hrow hown hE3 hsr hd
      have hcap : lk ≤ cap2 := by
        obtain ⟨_, _, _, hv2, _, _, hcc, _⟩ := HOW.out.2.resolve_left (fun h => by cases h.1)
        cases hv2
        exact hcc
      have hdl : d'.toList.length = lk := by rw [Array.length_toList, HDL.out]
      have HD2 := Lib.hid hdl
      clear hdl
      go_wp2
      go_ret2
      have hm : (min (max n 0) (lk : Int)).toNat = (d'.toList.take (max n 0).toNat).length := by rw [List.length_take, HD2.out]; omega
      have hml : (d'.toList.take (max n 0).toNat).length ≤ lk := by rw [List.length_take, HD2.out]; omega
      have hcut := own_cut HOW.out hml
      rw [fdV_take, List.length_take, ← List.take_eq_take_min, ← List.length_take] at hcut
      refine ⟨.slice (some ⟨gr, 0, none⟩) (min (max n 0) (lk : Int)).toNat cap2, d'.toList, rfl, by rw [show keepD (D, (0 : Int)).1 = K from HKD.out]; simpa using HSR.out, ?_, HE3.out⟩
      rw [hm]
      exact hcut
    · obtain rfl : K = [] := List.length_eq_zero_iff.1 (by omega)
      have hsort := SortQ_c p2 0 cap2 (by decide) (fun w' => w' = w2) w2 (Ins0_c p2 cap2 w2)
      have HSO := Lib.hid hsort
      have h0 : (min (max n 0) 0).toNat = 0 := by omega
      clear hsort
      go_wp2_with fail
      refine Calls.mono HSO.out ?_
      rintro e w3 ⟨rfl, rfl⟩
      go_wp2
      go_ret2
      refine ⟨.slice p2 0 cap2, [], rfl, by rw [show keepD (D, (0 : Int)).1 = [] from HKD.out]; exact srt_nil, ?_, HE2.out⟩
      rw [List.take_nil]
      exact HO2.out
  · obtain rfl : D = [] := herr.resolve_left he
    have hne : (er == 0) = false := beq_eq_false_iff_ne.2 he
    go_enter Tryz.func76, Tryz.ntmps76
    go_wp2_with fail
    refine Calls.mono HHV.out ?_
    rintro e w1 ⟨v, rfl, ho, hx1⟩
    have HX1 := Lib.hid hx1
    clear hx1 ho
    go_wp2
    go_ret2
    refine ⟨.slice none 0 0, [], rfl, srt_nil, ?_, HX1.out⟩
    rw [List.take_nil]
    exact ⟨rfl, .inl ⟨rfl, rfl⟩⟩
end Go.Proofs.YtfhdjekpdifajaaGreat
namespace Go.Proofs.YtfhdjekpdifajaaGreat
set_option linter.unusedVariables false
open Go.RowKit
def K9 : Cfg := ⟨2, 1, 4, 1, 0⟩
theorem K9_ok : K9.Ok := by constructor <;> simp [K9, U64]
def us9 : List (Int × Int) := [(1, 5), (2, 3)]
theorem us9_ok : UpsOk us9 := by
  intro u hu
  simp only [us9, List.mem_cons, List.not_mem_nil, or_false] at hu
  rcases hu with rfl | rfl <;> (constructor <;> simp [U64, I64])
theorem K9_c1 : cutK K9 0 1 = 1 := by decide
theorem K9_c2 : cutK K9 0 2 = 2 := by decide
theorem K9_d5 : cutD K9.mode 5 = 5 := by decide
theorem K9_d3 : cutD K9.mode 3 = 3 := by decide
theorem K9_s1 : updK K9 (feedK K9 []) 1 5 = feedK K9 [(1, 5)] := by
  have h := feedK_snoc K9 [] (1, 5)
  rw [K9_c1, K9_d5] at h
  exact h.symm
theorem K9_s2 : updK K9 (feedK K9 [(1, 5)]) 2 3 = feedK K9 us9 := by
  have h := feedK_snoc K9 [(1, 5)] (2, 3)
  rw [K9_c2, K9_d3] at h
  exact h.symm
theorem K9_e1 : errK K9 2 (feedK K9 []) 1 5 = 0 := by
  have h := feedK_ok K9 K9_ok (B := 2) rfl [] (by decide) (1, 5)
  rw [K9_c1, K9_d5] at h
  exact h
theorem K9_e2 : errK K9 2 (feedK K9 [(1, 5)]) 2 3 = 0 := by
  have h := feedK_ok K9 K9_ok (B := 2) rfl [(1, 5)] (by decide) (2, 3)
  rw [K9_c2, K9_d3] at h
  exact h
theorem us9_p : psU K9 us9 = [(1, 5), (2, 3)] := by decide
theorem K9_x (n : Nat) (h : n ≤ 2) : isX K9 n = true := by
  match n, h with
  | 0, _ => decide
  | 1, _ => decide
  | 2, _ => decide
def pt9 : Nat → Int → Int := pcS [(1, 5), (2, 3)]
theorem K9_u : Uniq K9 2 (feedK K9 us9) pt9 := fun n i x hn h0 h1 h => by
  have : x = ptK K9 2 us9 n i := ptK_of hn h0 h1 h
  rw [this, ptK_x K9_ok rfl us9_ok hn h0 h1 (K9_x n hn), us9_p]
  rfl
theorem pt9_I (n : Nat) (i : Int) : I64 (pt9 n i) := by
  show I64 (lsum [bif sh n 1 == i then 5 else 0, bif sh n 2 == i then 3 else 0])
  generalize (sh n 1 == i) = a
  generalize (sh n 2 == i) = b
  unfold I64
  cases a <;> cases b <;> decide
theorem K9_t : (feedK K9 us9 2).getD 0 0 = 8 := by
  have h := feed_total K9_ok (B := 2) rfl us9_ok
  rw [show fus us9 0 60 = us9 from rfl, hasK_pc, us9_p] at h
  rw [h]
  decide
theorem h9 : heavyP pt9 1 7 2 = ([(2, 0, 8), (1, 0, 5), (1, 1, 3), (0, 1, 5), (0, 2, 3)], 0) := by decide
theorem srt9 {S : List Fd} (h : SrtOf [(0, 1, 5), (0, 2, 3)] S) : S = [(0, 1, 5), (0, 2, 3)] := by
  obtain ⟨hp, hs⟩ := h
  have hl := hp.length_eq
  match S, hl with
  | [a, b], _ =>
    have h1 := hs 0 1 (by decide) (by simp)
    have ha : a ∈ [((0 : Nat), (1 : Int), (5 : Int)), (0, 2, 3)] := hp.subset (by simp)
    have hb : b ∈ [((0 : Nat), (1 : Int), (5 : Int)), (0, 2, 3)] := hp.subset (by simp)
    have hd : a ≠ b := by
      intro e
      subst e
      have := hp.nodup_iff.2 (by decide)
      simp at this
    simp only [List.mem_cons, List.not_mem_nil, or_false] at ha hb
    rcases ha with rfl | rfl <;> rcases hb with rfl | rfl
    · exact absurd rfl hd
    · rfl
    · exfalso
      revert h1
      decide
    · exact absurd rfl hd
theorem e9_q : eachR (quanR pt9 2 8) [5, 6] = ([1, 2], 0) := by decide
def f9 (x : Int × Int) : Int × Int := rangR 2 pt9 x.1 x.2
theorem k9 : keys K9 0 = 4 := by decide
theorem h9_a : histR f9 (keys K9 0) [2] = ([5, 3], 0) := by
  rw [k9, hist_ok (fun j hj => by simp at hj) (fun c hc => by simp at hc; omega)]
  decide
theorem h9_b : histR f9 (keys K9 0) [2, 2] = ([], 1) :=
  hist_rise (fun h => by have := h 0 (by decide); revert this; decide)
theorem u1 (w : World) (a : Int) (t : TypeId) : UAt (w.alloc (.cells #[.int .u64 a] t)) (.slice (some ⟨w.heap.size, 0, none⟩) 1 1) [a] := by
  have h0 := (cell_of (heap_at w (.cells #[.int .u64 a] t) rfl) 0).trans rfl
  refine .inr ⟨w.heap.size, 0, 1, rfl, by rw [size_alloc]; omega, fun k hk => ?_⟩
  match k, hk with
  | 0, _ => exact h0
theorem u2 (w : World) (a b : Int) (t : TypeId) : UAt (w.alloc (.cells #[.int .u64 a, .int .u64 b] t)) (.slice (some ⟨w.heap.size, 0, none⟩) 2 2) [a, b] := by
  have h0 := (cell_of (heap_at w (.cells #[.int .u64 a, .int .u64 b] t) rfl) 0).trans rfl
  have h1 := (cell_of (heap_at w (.cells #[.int .u64 a, .int .u64 b] t) rfl) 1).trans rfl
  refine .inr ⟨w.heap.size, 0, 2, rfl, by rw [size_alloc]; omega, fun k hk => ?_⟩
  match k, hk with
  | 0, _ => exact h0
  | 1, _ => exact h1
set_option maxRecDepth 20000 in
set_option maxHeartbeats 8000000 in
theorem shown19_c (w : World) : Calls Tryz.prog 69 #[] w fun e w' => e = .returned (.bool true) ∧ Ext w w' := by
  go_enter Tryz.func69, Tryz.ntmps69
  go_wp2_with fail
  refine (KNew_c K9 K9_ok _).mono ?_
  rintro e w1 ⟨s, g, L, rfl, hK, hs, hg, hL, hx1⟩
  have hE1 : Ext w w1 := by (repeat' (first | exact Ext.refl _ | assumption | apply Ext.allocR | apply Ext.drewR | apply Ext.drewNR | (refine Ext.trans' ?_ (by assumption))))
  have hF : KFresh w.heap.size 2 L := hL
  replace hK : KAt w1 s g K9 2 L (feedK K9 []) := hK
  clear hx1 hL hg hs
  go_wp2_with fail
  refine Calls.mono (KUpdate_c s g K9 2 L _ 1 5 _ (hK.ext ?hx) (by unfold I64; omega) (by unfold U64; omega)) ?_
  case hx => (repeat' (first | exact Ext.refl _ | assumption | apply Ext.allocR | apply Ext.drewR | apply Ext.drewNR | (refine Ext.trans' ?_ (by assumption))))
  rintro e w3 ⟨rfl, hK3, hM3⟩
  have hE3 : Ext w w3 := hF.ext (by (repeat' (first | exact Ext.refl _ | assumption | apply Ext.allocR | apply Ext.drewR | apply Ext.drewNR | (refine Ext.trans' ?_ (by assumption))))) hM3
  rw [K9_e1] at hK3 ⊢
  replace hK3 : KAt w3 s g K9 2 L (updK K9 (feedK K9 []) 1 5) := hK3
  rw [K9_s1] at hK3
  clear hM3 hE1 hK
  go_wp2_with fail
  refine Calls.mono (KUpdate_c s g K9 2 L _ 2 3 _ (hK3.ext ?hx) (by unfold I64; omega) (by unfold U64; omega)) ?_
  case hx => (repeat' (first | exact Ext.refl _ | assumption | apply Ext.allocR | apply Ext.drewR | apply Ext.drewNR | (refine Ext.trans' ?_ (by assumption))))
  rintro e w4 ⟨rfl, hK4, hM4⟩
  have hE4 : Ext w w4 := hF.ext (by (repeat' (first | exact Ext.refl _ | assumption | apply Ext.allocR | apply Ext.drewR | apply Ext.drewNR | (refine Ext.trans' ?_ (by assumption))))) hM4
  rw [K9_e2] at hK4 ⊢
  replace hK4 : KAt w4 s g K9 2 L (updK K9 (feedK K9 [(1, 5)]) 2 3) := hK4
  rw [K9_s2] at hK4
  clear hM4 hE3 hK3
  have hQ : ∀ W' k, Ext w4 W' → I64 k → Calls Tryz.prog 33 #[.pointer (some ⟨s, 0, none⟩), .int .i64 k] W' fun e w' => e = .returned (.tuple #[.int .u64 (quanR pt9 2 8 k).1, .int .i64 (quanR pt9 2 8 k).2]) ∧ Ext W' w' := fun W' k h hk => by
    have := Quan_of s 2 (by decide) pt9 ((feedK K9 us9 2).getD 0 0) k W' (fun W'' hE => WayR_c s g K9 2 L (feedK K9 us9) W'' ((hK4.ext h).ext hE) k hk pt9 K9_u pt9_I)
    rw [K9_t] at this
    exact this
  have hR : ∀ x y, U64 x → U64 y → ∀ W', Ext w4 W' → Calls Tryz.prog 80 #[.pointer (some ⟨s, 0, none⟩), .int .u64 x, .int .u64 y] W' fun e w' => e = .returned (.tuple #[.int .i64 (rangR 2 pt9 x y).1, .int .i64 (rangR 2 pt9 x y).2]) ∧ Ext W' w' := fun x y hx hy W' h =>
    (Range_c s g K9 2 L (feedK K9 us9) W' (hK4.ext h) pt9 K9_u pt9_I x y hx hy).mono fun e w' h => rang_of h
  have HK := Lib.hid hK4
  have HQ := Lib.hid hQ
  have HR := Lib.hid hR
  clear hK4 hQ hR hF
  go_wp2_with fail
  have hEa : Ext w4 (w4.alloc (.cells #[.int .i64 5, .int .i64 6] 2)) := Ext.alloc' _ _
  refine Calls.mono (Quantiles_c s (quanR pt9 2 8) [5, 6] (some ⟨w4.heap.size, 0, none⟩) 2 _ (ints2 w4 5 6 _) (by decide) (fun k hk W' h => HQ.out W' k (hEa.trans' h) (by simp at hk; unfold I64; omega))) ?_
  rintro e w5 ⟨v5, rfl, ho5, hx5⟩
  rw [e9_q] at ho5 ⊢
  obtain ⟨g5, c5, rfl, _, hg5, hc5⟩ := own_row_cells ho5 (by decide)
  have q0 := (hc5 0 (by decide)).trans (show _ = some (Value.int .u64 1) from rfl)
  have q1 := (hc5 1 (by decide)).trans (show _ = some (Value.int .u64 2) from rfl)
  have hE5 : Ext w4 w5 := hEa.trans' hx5
  have Q := Lib.hid (And.intro q0 q1)
  clear ho5 hx5 hc5 q0 q1 hEa
  go_wp2_with fail
  have hEb : Ext w4 (w5.alloc (.cells #[.int .u64 2] 22)) := hE5.allocR _
  refine Calls.mono (Hist_c s g K9 2 L (feedK K9 us9) _ (HK.out.ext hEb) f9 [2] (some ⟨w5.heap.size, 0, none⟩) 1 (u1 w5 2 _) (fun c hc => by simp at hc; subst hc; unfold U64; omega) (by decide) (fun x y hx hy W' h => HR.out x y hx hy W' (hEb.trans' h))) ?_
  rintro e w6 ⟨v6, rfl, ho6, hx6⟩
  rw [h9_a] at ho6 ⊢
  have HI6 := Lib.hid (IntsAt.of_row ho6)
  have hE6 : Ext w4 w6 := hEb.trans' hx6
  have hE56 : Ext w5 w6 := (Ext.alloc' _ _).trans' hx6
  obtain ⟨p6, c6, rfl⟩ := own_sl ho6
  clear ho6 hx6 hEb hE5
  go_wp2_with fail
  refine Calls.mono (Top_c 12 sorts_12 s g K9 2 L (feedK K9 us9) _ (HK.out.ext hE6) pt9 K9_u 1 1 7 (by rw [h9]; decide)) ?_
  rintro e w7 ⟨v7, S, rfl, hS, ho7, hx7⟩
  rw [h9] at hS ⊢
  have hS2 := srt9 (S := S) hS
  subst hS2
  obtain ⟨g7, c7, rfl, _, hg7, hc7⟩ := own_row_cells ho7 (by decide)
  have t0 := (hc7 0 (by decide)).trans (show _ = some (Value.int .i64 0) from rfl)
  have t1 := (hc7 1 (by decide)).trans (show _ = some (Value.int .u64 1) from rfl)
  have t2 := (hc7 2 (by decide)).trans (show _ = some (Value.int .i64 5) from rfl)
  have T7 := Lib.hid (And.intro t0 (And.intro t1 t2))
  have hE7 : Ext w4 w7 := hE6.trans' hx7
  have hE57 := hE56.trans' hx7
  have HX7 := Lib.hid hx7
  clear ho7 hc7 hS t0 t1 t2 hx7 hE6 hE56
  go_wp2_with fail
  have hEc : Ext w4 (w7.alloc (.cells #[.int .u64 2, .int .u64 2] 22)) := hE7.allocR _
  refine Calls.mono (Hist_c s g K9 2 L (feedK K9 us9) _ (HK.out.ext hEc) f9 [2, 2] (some ⟨w7.heap.size, 0, none⟩) 2 (u2 w7 2 2 _) (fun c hc => by simp at hc; subst hc; unfold U64; omega) (by decide) (fun x y hx hy W' h => HR.out x y hx hy W' (hEc.trans' h))) ?_
  rintro e w8 ⟨v8, rfl, ho8, hx8⟩
  rw [h9_b] at ho8 ⊢
  have hE78 : Ext w7 w8 := (Ext.alloc' _ _).trans' hx8
  have hE58 := hE57.trans' hE78
  have hE8 := hE4.trans' (hE7.trans' hE78)
  obtain ⟨q0', q1'⟩ := Q.out
  obtain ⟨t0', t1', t2'⟩ := T7.out
  have q0 := ((bcell hE58).1 _ _ hg5).trans q0'
  have q1 := ((bcell hE58).1 _ _ hg5).trans q1'
  have t0 := ((bcell hE78).1 _ _ hg7).trans t0'
  have t1 := ((bcell hE78).1 _ _ hg7).trans t1'
  have t2 := ((bcell hE78).1 _ _ hg7).trans t2'
  have gl5 := Nat.lt_of_lt_of_le hg5 hE58.size
  have gl7 := Nat.lt_of_lt_of_le hg7 hE78.size
  have HI8 := Lib.hid (HI6.out.ext (HX7.out.trans' hE78))
  clear ho8 hx8 hEc hE7 hE57 hE58 hE78 q0' q1' t0' t1' t2' hg5 hg7
  go_wp2_with fail
  refine Calls.mono (Same_c _ _ [5, 3] [5, 3] _ (HI8.out.ext (Ext.alloc' _ _)) (ints2 w8 5 3 _) (by decide) (by decide)) ?_
  rintro e w9 ⟨rfl, hx9⟩
  have hE89 : Ext w8 w9 := (Ext.alloc' _ _).trans' hx9
  have hE9 := hE8.trans' hE89
  have q0' := ((bcell hE89).1 _ _ gl5).trans q0
  have q1' := ((bcell hE89).1 _ _ gl5).trans q1
  have t0' := ((bcell hE89).1 _ _ gl7).trans t0
  have t1' := ((bcell hE89).1 _ _ gl7).trans t1
  have t2' := ((bcell hE89).1 _ _ gl7).trans t2
  have gl5' := Nat.lt_of_lt_of_le gl5 hE89.size
  have gl7' := Nat.lt_of_lt_of_le gl7 hE89.size
  clear q0 q1 t0 t1 t2 gl5 gl7 hx9 hE89
  rw [decide_eq_true rfl]
  go_wp2
  go_ret
  exact ⟨rfl, hE9⟩
end Go.Proofs.YtfhdjekpdifajaaGreat
namespace Go.Proofs.YtfhdjekpdifajaaGreat
set_option linter.unusedVariables false
open Go.RowKit
theorem spans_len (K : Int) : ∀ (a : Int) (l : List Int), (spansL K a l).length = l.length + 1
  | a, [] => rfl
  | a, c :: r => by
    show ((a, c - 1) :: spansL K c r).length = _
    rw [List.length_cons, spans_len K c r]; rfl
end Go.Proofs.YtfhdjekpdifajaaGreat
namespace Go.Proofs.YtfhdjekpdifajaaGreat
set_option linter.unusedVariables false
open Go.RowKit
theorem uniq_fed (C : Cfg) (B : Nat) (us : List (Int × Int)) : Uniq C B (feedK C (fus us 0 60)) (ptK C B us) := fun n i x hn h0 h1 h => ptK_of hn h0 h1 h
theorem ptK_I64 (C : Cfg) (B : Nat) (us : List (Int × Int)) (n : Nat) (i : Int) : I64 (ptK C B us n i) := by
  obtain ⟨h1, h2⟩ := ptK_bnd C B us n i
  unfold I64; omega
theorem cv_bd {C : Cfg} {B : Nat} (hB : B ≤ 59) (us : List (Int × Int)) (lo hi : Int) : -7850513022320640 ≤ lsum (cvV (ptK C B us) B lo hi) ∧ lsum (cvV (ptK C B us) B lo hi) ≤ 7850513022320640 := by
  have h := lsum_bd (l := cvV (ptK C B us) B lo hi) (B := 65970697666560) (by decide) (fun x hx => by
    unfold cvV at hx
    simp only [List.mem_map] at hx
    obtain ⟨p, _, rfl⟩ := hx
    exact ptK_bnd C B us _ _)
  have hl : (cvV (ptK C B us) B lo hi).length ≤ 2 * B + 1 := by unfold cvV; rw [List.length_map]; exact cov_len B 0 lo hi
  omega
theorem cv_I64 {C : Cfg} {B : Nat} (hB : B ≤ 59) (us : List (Int × Int)) (lo hi : Int) : I64 (lsum (cvV (ptK C B us) B lo hi)) := by
  obtain ⟨h1, h2⟩ := cv_bd (C := C) hB us lo hi
  unfold I64; omega
/-- Where all levels are exact, a span is told what it has. -/
theorem cv_eq {C : Cfg} (hok : C.Ok) {B : Nat} (hB : C.bits = B) {us : List (Int × Int)} (hus : UpsOk us) (hx : ∀ n : Nat, n ≤ B → isX C n = true) {lo hi : Int} (h0 : 0 ≤ lo) (h1 : lo ≤ hi) (h2 : hi < 2 ^ B) :
    lsum (cvV (ptK C B us) B lo hi) = betK C us 60 lo hi := by
  rw [← cov_bet h0 h1 h2 us]
  unfold cvV
  congr 1
  refine List.map_congr_left fun p hp => ?_
  have hb := cov_bd B 0 lo hi h0 h1 h2 p hp
  have hl := cov_lev B 0 lo hi p hp
  have hk : p.2 < keys C p.1 := by
    unfold keys
    rw [hB, show ((B : Int) - (p.1 : Int)).toNat = 0 + B - p.1 by omega]
    exact hb.2
  exact ptK_x hok hB hus (by omega) hb.1 hk (hx p.1 (by omega))
theorem cv_all {C : Cfg} (hok : C.Ok) {B : Nat} (hB : C.bits = B) {us : List (Int × Int)} (hus : UpsOk us) : lsum (cvV (ptK C B us) B 0 (2 ^ B - 1)) = hasK C us 60 B 0 := by
  unfold cvV
  rw [cov_all B B 0]
  show lsum [ptK C B us (0 + B) 0] = _
  rw [lsum_one, Nat.zero_add, ptK_x hok hB hus (Nat.le_refl B) (Int.le_refl 0) (by rw [keys_top hB]; decide) (isX_top hok hB), hasK_pc]
end Go.Proofs.YtfhdjekpdifajaaGreat
namespace Go.Proofs.YtfhdjekpdifajaaGreat
set_option linter.unusedVariables false
open Go.RowKit
theorem spans_getD (K : Int) : ∀ (a : Int) (cs : List Int) (k : Nat), k ≤ cs.length → (spansL K a cs).getD k (0, 0) = (if k = 0 then a else cs.getD (k - 1) 0, if k < cs.length then cs.getD k 0 - 1 else K - 1)
  | a, [], 0, _ => rfl
  | a, c :: r, 0, _ => by simp [spansL]
  | a, c :: r, k + 1, h => by
    have := spans_getD K c r k (by simpa using h)
    show (spansL K c r).getD k (0, 0) = _
    rw [this]
    match k with
    | 0 => simp
    | k + 1 => simp
theorem spans_ok {K : Int} {cs : List Int} (hr : Rise cs cs.length) (hi : Inner K cs) (hK : 1 ≤ K) {k : Nat} (hk : k ≤ cs.length) : 0 ≤ ((spansL K 0 cs).getD k (0, 0)).1 ∧ ((spansL K 0 cs).getD k (0, 0)).1 ≤ ((spansL K 0 cs).getD k (0, 0)).2 ∧ ((spansL K 0 cs).getD k (0, 0)).2 < K := by
  have hin : ∀ j, j < cs.length → 1 ≤ cs.getD j 0 ∧ cs.getD j 0 < K := fun j hj => hi _ (by simp [List.getD, hj])
  rw [spans_getD K 0 cs k hk]
  match k, hk with
  | 0, _ =>
    by_cases h : 0 < cs.length
    · have := hin 0 h
      simp only [h, if_true]
      omega
    · simp only [h, if_true, if_false]
      omega
  | k + 1, hk =>
    have h1 := hin k (by omega)
    by_cases h : k + 1 < cs.length
    · have h2 := hin (k + 1) h
      have h3 := hr k h
      simp only [h, if_true, Nat.add_sub_cancel, show ¬ (k + 1 = 0) by omega, if_false]
      omega
    · simp only [h, if_false, Nat.add_sub_cancel, show ¬ (k + 1 = 0) by omega]
      omega
theorem rise_snoc {cs : List Int} {x : Int} (h : Rise cs cs.length) (hx : ∀ c ∈ cs, c < x) : Rise (cs ++ [x]) (cs ++ [x]).length := by
  intro j hj
  rw [List.length_append] at hj
  simp only [List.length_cons, List.length_nil] at hj
  have e1 : (cs ++ [x]).getD j 0 = cs.getD j 0 := by
    rw [List.getD_eq_getElem?_getD, List.getD_eq_getElem?_getD, List.getElem?_append_left (by omega)]
  rw [e1]
  by_cases h2 : j + 1 < cs.length
  · have e2 : (cs ++ [x]).getD (j + 1) 0 = cs.getD (j + 1) 0 := by
      rw [List.getD_eq_getElem?_getD, List.getD_eq_getElem?_getD, List.getElem?_append_left h2]
    rw [e2]
    exact h j h2
  · have e3 : j + 1 = cs.length := by omega
    have e2 : (cs ++ [x]).getD (j + 1) 0 = x := by rw [e3]; simp
    rw [e2]
    exact hx _ (by simp [List.getD, show j < cs.length by omega])
theorem spans_mem {K : Int} {cs : List Int} {x : Int × Int} (h : x ∈ spansL K 0 cs) : ∃ k, k ≤ cs.length ∧ x = (spansL K 0 cs).getD k (0, 0) := by
  obtain ⟨k, hk⟩ := List.getElem_of_mem h
  obtain ⟨h1, h2⟩ := hk
  have hl := spans_len K 0 cs
  exact ⟨k, by omega, by simp [List.getD, h1, h2]⟩
theorem rang_ok {B : Nat} {pt : Nat → Int → Int} {lo hi : Int} (h1 : lo ≤ hi) (h2 : hi < 2 ^ B) (hI : I64 (lsum (cvV pt B lo hi))) : rangR B pt lo hi = (lsum (cvV pt B lo hi), 0) := by
  unfold rangR
  rw [if_neg (by omega), if_neg (by omega), fitN_yes hI, fitB_yes hI]
  rfl
end Go.Proofs.YtfhdjekpdifajaaGreat
namespace Go.Proofs.YtfhdjekpdifajaaGreat
set_option linter.unusedVariables false
open Go.RowKit
theorem map_getD2 {f : Int × Int → Int × Int} {l : List (Int × Int)} {k : Nat} (h : k < l.length) : (l.map fun x => (f x).1).getD k 0 = (f (l.getD k (0, 0))).1 := by simp [List.getD, h]
/-- What the first loop has gathered: ranks that there are, cuts that rise. -/
structure Gath (w0 w : World) (K T : Int) (k : Nat) (u10 u11 : Value) (last : Int) (ks cs : List Int) : Prop where
  kl : ks.length ≤ k
  cl : cs.length ≤ k
  kI : ∀ x ∈ ks, 1 ≤ x ∧ x ≤ T
  ri : Rise cs cs.length
  inn : Inner K cs
  le : ∀ x ∈ cs, x ≤ last
  l0 : 0 ≤ last
  l1 : last ≤ k * 1000000000000000000
  r10 : w.ownsRow w0.heap.size 2 1 u10 ks.length (ints ks)
  r11 : w.ownsRow w0.heap.size 22 1 u11 cs.length (u64s cs)
  ext : Ext w0 w
end Go.Proofs.YtfhdjekpdifajaaGreat
namespace Go.Proofs.YtfhdjekpdifajaaGreat
set_option linter.unusedVariables false
open Go.RowKit
theorem keys0_pow {C : Cfg} {B : Nat} (hB : C.bits = B) : keys C 0 = 2 ^ B := by unfold keys; rw [hB]; congr 1
/-- A config whose columns are as many as its keys. -/
def exC (x : Cfg) : Cfg := ⟨(mkC x 7 9).bits, (mkC x 7 9).rows, 2 ^ (mkC x 7 9).bits.toNat, (mkC x 7 9).mode, (mkC x 7 9).seed⟩
theorem exC_ok (x : Cfg) (hs : U64 x.seed) : (exC x).Ok ∧ (exC x).bits ≤ 7 ∧ ∀ n : Nat, isX (exC x) n = true := by
  have h := mkC_ok x hs (nb := 7) (nw := 9) (by decide) (by decide) (by decide) (by decide)
  have hb : (mkC x 7 9).bits ≤ 7 := by
    show 1 + x.bits % 65536 % 7 ≤ 7
    omega
  have hb1 := h.b1
  have hw : (1 : Int) ≤ 2 ^ (mkC x 7 9).bits.toNat ∧ (2 : Int) ^ (mkC x 7 9).bits.toNat ≤ 128 := by
    have h1 := pw (mkC x 7 9).bits.toNat
    have h2 : (2 : Nat) ^ (mkC x 7 9).bits.toNat ≤ 2 ^ 7 := Nat.pow_le_pow_right (by decide) (by omega)
    have e : ((2 ^ (mkC x 7 9).bits.toNat : Nat) : Int) = (2 : Int) ^ (mkC x 7 9).bits.toNat := by push_cast; rfl
    omega
  refine ⟨⟨h.b1, h.b2, h.r1, h.r2, hw.1, hw.2, h.m1, h.m2, h.s⟩, hb, fun n => ?_⟩
  unfold isX
  have : keys (exC x) n ≤ (exC x).width := by
    show (2 : Int) ^ ((mkC x 7 9).bits - (n : Int)).toNat ≤ 2 ^ (mkC x 7 9).bits.toNat
    have h2 : (2 : Nat) ^ ((mkC x 7 9).bits - (n : Int)).toNat ≤ 2 ^ (mkC x 7 9).bits.toNat := Nat.pow_le_pow_right (by decide) (by omega)
    exact_mod_cast h2
  simpa using this
theorem shl1 {B : Nat} (h : B ≤ 59) : wrap64 (2 ^ min (IntKind.u64.wrap (B : Int)).toNat 64) = 2 ^ B := by
  have e : (IntKind.u64.wrap (B : Int)).toNat = B := by rw [IntKind.wrap_u64]; omega
  have hp := pow_bd B h
  rw [e, Nat.min_eq_left (by omega)]
  unfold wrap64
  omega
end Go.Proofs.YtfhdjekpdifajaaGreat
namespace Go.Proofs.YtfhdjekpdifajaaGreat
set_option linter.unusedVariables false
open Go.RowKit
theorem betK_add (C : Cfg) (us : List (Int × Int)) {a b c : Int} (h1 : a ≤ b) (h2 : b ≤ c + 1) : betK C us 60 a (b - 1) + betK C us 60 b c = betK C us 60 a c := by
  unfold betK
  rw [sumIf_split (inB a c) (fun k => decide (k < b))]
  congr 1
  · refine sumIf_congr fun u _ => ?_
    unfold inB
    rw [Bool.eq_iff_iff]
    simp
    omega
  · refine sumIf_congr fun u _ => ?_
    unfold inB
    rw [Bool.eq_iff_iff]
    simp
    omega
theorem betK_none (C : Cfg) (us : List (Int × Int)) (a : Int) : betK C us 60 a (a - 1) = 0 := by
  unfold betK
  rw [← sumIf_none (stP C 0 (fus us 0 60))]
  refine sumIf_congr fun u _ => ?_
  unfold inB
  rw [Bool.eq_false_iff]
  simp
  omega
set_option maxRecDepth 20000 in
set_option maxHeartbeats 16000000 in
theorem SumExactL_c (x : Cfg) (hx : x.Raw) (us : List (Int × Int)) (hus : UpsOk us) (v : Value) (w : World) (hv : UpsAt w v us) (hul : us.length ≤ 140737488355328) (l : List Int) (p : Option Addr) (n c : Nat) (hk : USl w p n c l) (hI : allU l) (hnl : n ≤ 281474976710656) :
    Calls Tryz.prog 12 #[.agg #[.int .i64 x.bits, .int .i64 x.rows, .int .i64 x.width, .int .i64 x.mode, .int .u64 x.seed, v], .slice p n c] w fun e w' => e = .returned (.bool true) ∧ Ext w w' := by
  obtain ⟨vp, vc, rfl⟩ := hv.sl
  have HV := Lib.hid hv
  have HKL := Lib.hid hk
  have HI := Lib.hid hI
  clear hv hk hI
  obtain ⟨hok, hb7, hallx⟩ := exC_ok x hx.s
  go_enter Tryz.func12, Tryz.ntmps12
  go_wp2_with fail
  refine (shown19_c _).mono ?_
  rintro e w1 ⟨rfl, hb1⟩
  have hE1 : Ext w w1 := by (repeat' (first | exact Ext.refl _ | assumption | apply Ext.allocR | apply Ext.drewR | apply Ext.drewNR | (refine Ext.trans' ?_ (by assumption))))
  have hP1 := hb1.keep (heap_at w (.cells #[.int .i64 x.bits, .int .i64 x.rows, .int .i64 x.width, .int .i64 x.mode, .int .u64 x.seed, .slice vp us.length vc] 107) rfl)
  have p0 := (cell_of hP1 0).trans rfl
  have p1 := (cell_of hP1 1).trans rfl
  have p2 := (cell_of hP1 2).trans rfl
  have p3 := (cell_of hP1 3).trans rfl
  have p4 := (cell_of hP1 4).trans rfl
  have p5 := (cell_of hP1 5).trans rfl
  have pl := lt_of hP1
  clear hb1
  go_wp2_with fail
  refine (Any_c x hx 7 9 (by decide) (by decide) (by decide) (by decide) _).mono ?_
  rintro e wa ⟨rfl, hba⟩
  have hEa : Ext w wa := by (repeat' (first | exact Ext.refl _ | assumption | apply Ext.allocR | apply Ext.drewR | apply Ext.drewNR | (refine Ext.trans' ?_ (by assumption))))
  have kp := hba.keep hP1
  have hC : exC x = ⟨(mkC x 7 9).bits, (mkC x 7 9).rows, 2 ^ (mkC x 7 9).bits.toNat, (mkC x 7 9).mode, (mkC x 7 9).seed⟩ := rfl
  generalize exC x = C at *
  generalize hA : mkC x 7 9 = A at *
  clear hA
  have hb1 : 1 ≤ A.bits := by have := hok.b1; rw [hC] at this; exact this
  have hb2 : A.bits ≤ 7 := by rw [hC] at hb7; exact hb7
  obtain ⟨B, hB⟩ : ∃ B : Nat, A.bits = B := ⟨A.bits.toNat, by omega⟩
  have HC := Lib.hid hC
  have HB := Lib.hid hB
  clear hC hba p0 p1 p2 p3 p4 p5 pl hP1 hE1
  have hcb : C.bits = B := by rw [HC.out]; exact hB
  have hcr : A.rows = C.rows := by rw [HC.out]
  have hcw : (2 : Int) ^ B = C.width := by rw [HC.out, hB]; rfl
  have hcm : A.mode = C.mode := by rw [HC.out]
  have hcs : A.seed = C.seed := by rw [HC.out]
  rw [hB, hcr, hcm, hcs]
  have hpw := pow_bd B (by omega)
  have hsh := shl1 (B := B) (by omega)
  clear hB hcr hcm hcs HB HC
  have hkz := hok.b1
  go_wp2_with fail
  rw [← hcb]
  clear hsh
  obtain ⟨wc, hwc⟩ : ∃ wc, wa.alloc (.cells #[.int .i64 C.bits, .int .i64 C.rows, .int .i64 C.width, .int .i64 C.mode, .int .u64 C.seed] 24) = wc := ⟨_, rfl⟩
  have kc : wc.heap[wa.heap.size]? = some (.cells #[.int .i64 C.bits, .int .i64 C.rows, .int .i64 C.width, .int .i64 C.mode, .int .u64 C.seed] 24 (0, 0)) := by rw [← hwc]; exact heap_at _ _ rfl
  have hxc : Ext wa wc := by rw [← hwc]; exact Ext.alloc' _ _
  rw [hwc]
  clear hwc
  have hEc : Ext w wc := hEa.trans' hxc
  have kp2 := hxc.keep kp
  have hcl := lt_of kc
  refine (KNew_c C hok _).mono ?_
  rintro e w2 ⟨s, g, L, rfl, hK, hs, hg, hL, hx2⟩
  have hBt : C.bits.toNat = B := by omega
  rw [hBt] at hK hL
  have hBd : B ≤ 59 := by omega
  have hE2 : Ext w w2 := hEc.trans' hx2
  have hs2 := hx2.size
  have KP := Lib.hid (hx2.keep kp2)
  have KC := Lib.hid (hx2.keep kc)
  have hF : KFresh wc.heap.size B L := hL
  have hnc : ∀ k, k < wc.heap.size → ¬ cellsOf B L k := fun k hk hc => by obtain ⟨n, hn, rfl⟩ := hc; have := (hF n hn).2.2; omega
  have HB := Lib.hid hcb
  have HOK := Lib.hid hok
  have HX := Lib.hid hallx
  clear hx2 hL hBt kp2 kc kp hcb hcw hallx
  go_wp2
  have hM0 : Mod (cellsOf B L) w2 w2 := Mod.refl _ _
  have hK0 : KAt w2 s g C B L (feedK C (fus us 0 0)) := by rw [fus_self]; exact hK
  clear hK
  go_loopw [9] (fun u wr => ∃ k : Nat, 0 ≤ k ∧ (k = 0 ∨ (k ≤ 60 ∧ k ≤ us.length)) ∧ u = .int .i64 k ∧ Mod (cellsOf B L) w2 wr ∧ KAt wr s g C B L (feedK C (fus us 0 k))) (fun u _ => 60 - (intOf u).toNat)
  case atStart => exact ⟨0, Nat.le_refl _, .inl rfl, rfl, hM0, hK0⟩
  case round =>
    clear hM0 hK0
    obtain ⟨k, hik, hkj, rfl, hM, hK⟩ := hrel
    have hMs := hM.size
    have hsz1 := hEc.size
    have hszp := hEa.size
    have hszc := hxc.size
    have qp := hM.keep KP.out (hnc _ (by have := lt_of KP.out; omega))
    have qc := hM.keep KC.out (hnc _ hcl)
    have q5 := (cell_of qp 5).trans rfl
    have lp := lt_of qp
    have lc := lt_of qc
    have hCq := CfgAt.of qc
    have c0 := hCq.c0
    have c1 := hCq.c1
    have c2 := hCq.c2
    have c3 := hCq.c3
    have c4 := hCq.c4
    clear hCq
    by_cases hgo : k < us.length ∧ k < 60
    · obtain ⟨hg1, hg2⟩ := hgo
      have hkj60 : k < 60 := by omega
      obtain ⟨ug, off, rfl, hul0, d0', d1'⟩ := HV.out.one hg1
      have hnu : ¬ cellsOf B L ug := hnc _ (by omega)
      have d0 := (mcell hM (b := ug) (by omega) hnu (off + k * 2)).trans (((bcell hE2).1 _ _ hul0).trans d0')
      have d1 := (mcell hM (b := ug) (by omega) hnu (off + k * 2 + 1)).trans (((bcell hE2).1 _ _ hul0).trans d1')
      have hgl2 : ug < wr.heap.size := by omega
      have hf := fus_snoc us (Nat.zero_le k) hg1
      have hu := hus _ (List.getElem_mem hg1)
      have hget : us.getD k (0, 0) = us[k] := by simp [hg1]
      rw [hget] at hf
      generalize us[k] = uu at *
      obtain ⟨uk, ud⟩ := uu
      have HF := Lib.hid hf
      clear hf hget d0' d1'
      have herr := feedK_ok C hok HB.out (fus us 0 k) (by have := fus_len us 0 k; omega) (uk, ud)
      have HERR := Lib.hid herr
      have HQ := Lib.hid qp
      have HK := Lib.hid hK
      clear herr qp qc hK
      go_upto_region 10 with (fail)
      go_cut [10] (fun s10 wx => ∃ bu : Nat, s10 = .pointer (some ⟨bu, 0, none⟩) ∧ wx.heap[bu]? = some (.cells #[.int .u64 (cutK C 0 uk), .int .i64 (cutD C.mode ud)] 138 (0, 0)) ∧ Ext wr wx ∧ wr.heap.size ≤ bu)
      case first =>
        have hC0 := af_drew wr
        refine pi_start (fun w' => ∃ x : After wr, w' = x.w) [] (by kernel_rfl) ?_
        refine pi_c 0 (by assumption) rfl (by kernel_rfl) (by kernel_rfl) (fun _ _ _ _ h => h) (fun K hK => ?_)
        go_big_quiet_op
        refine hK _ ?_
        clear hK K
        refine pi_t 1 rfl (by kernel_rfl) (by kernel_rfl) (fun _ _ _ _ h => h) (fun K hK => ?_)
        go_big_quiet_op
        refine hK _ ?_
        clear hK K
        refine pi_c 2 (by assumption) rfl (by kernel_rfl) (by kernel_rfl) (fun _ _ _ _ h => h) (fun K hK => ?_)
        go_big_quiet_op
        refine hK _ ?_
        clear hK K
        refine pi_t 3 rfl (by kernel_rfl) (by kernel_rfl) (fun _ _ _ _ h => h) (fun K hK => ?_)
        go_big_quiet_op
        refine hK _ ?_
        clear hK K
        refine pi_t 4 rfl (by kernel_rfl) (by kernel_rfl) (fun _ _ _ _ h => h) (fun K hK => ?_)
        go_big_quiet_op
        refine hK _ ?_
        clear hK K
        refine pi_c 5 (by assumption) rfl (by kernel_rfl) (by kernel_rfl) (fun _ _ _ _ h => h) (fun K hK => ?_)
        go_big_quiet_op
        refine hK _ ?_
        clear hK K
        refine pi_b 6 7 rfl rfl (by kernel_rfl) (fun K hK => ?_) (fun K hK => ?_)
        · go_wp2_with (go_at_call 81; refine (Cut15_c C hok uk ud hu.1 hu.2 _).mono ?_; rintro e w3 ⟨rfl, hx3⟩)
          have hx3' : Ext wr w3 := Ext.trans' (Below.drew (Ext.refl wr)) hx3
          have hs3 := hx3'.size
          refine hK _ _ (fun _ h => af_step h hx3) ?_
          clear hK K
          refine pi_l 7 rfl (by kernel_rfl) (fun K hK => ?_)
          go_wp2
          refine hK _ _ (fun _ h => af_step h (Ext.alloc' _ _)) ?_
          clear hK K
          refine pi_l 8 rfl (by kernel_rfl) (fun K hK => ?_)
          go_wp2
          refine hK _ _ (fun _ _ => ⟨⟨_, hx3'.allocR _⟩, rfl⟩) ?_
          clear hK K
          refine pi_end (by kernel_rfl) ?_
          go_wp2_with fail
          go_meet
          exact ⟨w3.heap.size, rfl, heap_at _ _ rfl, hx3'.allocR _, hs3⟩
        · go_wp2
          refine hK _ _ (fun _ h => af_step h (Ext.alloc' _ _)) ?_
          clear hK K
          refine pi_l 6 rfl (by kernel_rfl) (fun K hK => ?_)
          go_wp2_with (go_at_call 81; refine (Cut15_c C hok uk ud hu.1 hu.2 _).mono ?_; rintro e w3 ⟨rfl, hx3⟩)
          refine hK _ _ (fun _ h => af_step h hx3) ?_
          clear hK K
          have hs3 : (wr.alloc (.cells #[.int .u64 0, .int .i64 0] 138)).heap.size ≤ w3.heap.size := hx3.size
          rw [size_alloc] at hs3
          have hx3' : Ext wr w3 := Ext.trans' (Ext.alloc' wr _) (Ext.trans' (Below.drew (Ext.refl _)) hx3)
          have hbx : w3.heap[wr.heap.size]? = some (.cells #[.int .u64 0, .int .i64 0] 138 (0, 0)) := by
            rw [hx3.block _ (by show _ < (wr.alloc _).heap.size; rw [size_alloc]; exact Nat.lt_succ_self _)]
            exact heap_at wr _ rfl
          have p0 := (cell_of hbx 0).trans rfl
          have p1 := (cell_of hbx 1).trans rfl
          have f0 := frozen_of hbx 0
          have f1 := frozen_of hbx 1
          refine pi_l 8 rfl (by kernel_rfl) (fun K hK => ?_)
          go_wp2
          refine hK _ _ (fun _ _ => ⟨⟨_, (hx3'.setR (Nat.le_refl _) _).setR (Nat.le_refl _) _⟩, rfl⟩) ?_
          clear hK K
          refine pi_end (by kernel_rfl) ?_
          go_wp2_with fail
          go_meet
          exact ⟨wr.heap.size, rfl, set2 hbx _ _, (hx3'.setR (Nat.le_refl _) _).setR (Nat.le_refl _) _, Nat.le_refl _⟩
      case rest =>
        obtain ⟨bu, rfl, hbu, hxw, hbul⟩ := hcut
        have b0 := (cell_of hbu 0).trans rfl
        have b1 := (cell_of hbu 1).trans rfl
        have hdI : I64 (cutD C.mode ud) := by have := cutD_bd C.mode ud; unfold I64; omega
        have hkU : U64 (cutK C 0 uk) := by have := cutK_bd C hok 0 uk (Int.le_refl 0); have := keys_bd C hok 0 (Int.le_refl 0); unfold U64; omega
        clear c0 c1 c2 c3 c4 q5 d0 d1
        go_wp2_with fail
        refine Calls.mono (KUpdate_c s g C B L _ _ _ _ (HK.out.ext hxw) hdI hkU) ?_
        rintro e w4 ⟨rfl, hK4, hM4⟩
        rw [HERR.out] at hK4 ⊢
        go_wp2
        go_roundw
        case rel =>
          refine ⟨k + 1, by omega, .inr ⟨by omega, by omega⟩, by go_num, hM.trans ((hxw.mod _).trans hM4), ?_⟩
          rw [HF.out, feedK_snoc]
          exact hK4
        case measure => simp [intOf]; omega
    · have hfe := fus_end us (i := 0) (j := 60) (k := k) (by omega) (by omega) hkj hgo
      rw [hfe] at hK
      have hEr : Ext w wr := Below.trans hE2 (hM.below (B := w.heap.size) (by omega) (fun k hk => by obtain ⟨n, hn, rfl⟩ := hk; have := (hF n hn).2.2; omega))
      have HQP := Lib.hid qp
      have HQC := Lib.hid qc
      have hkp := keys0_pow HB.out
      have hkb := keys_bd C hok 0 (Int.le_refl 0)
      obtain ⟨KN, hKN⟩ : ∃ KN, keys C 0 = KN := ⟨_, rfl⟩
      rw [hKN] at hkp hkb
      have hTt : ∀ W', Ext wr W' → Calls Tryz.prog 28 #[.pointer (some ⟨s, 0, none⟩)] W' (fun e w' => e = .returned (.int .i64 (betK C us 60 0 (KN - 1))) ∧ Ext W' w') := fun W' h => by
        have h1 := KTotal_c s g C B L _ W' (hK.ext h)
        rw [feed_total hok HB.out hus] at h1
        rw [hkp, ← cv_eq hok HB.out hus (fun n _ => HX.out n) (Int.le_refl 0) (by omega) (by omega), cv_all hok HB.out hus]
        exact h1
      have hKy : ∀ W', Calls Tryz.prog 79 #[.agg #[.int .i64 C.bits, .int .i64 C.rows, .int .i64 C.width, .int .i64 C.mode, .int .u64 C.seed], .int .i64 0] W' (fun e w' => e = .returned (.int .u64 KN) ∧ Ext W' w') := fun W' => by rw [← hKN]; exact KeysR_c C hok 0 (Int.le_refl 0) (by omega) W'
      have HTT := Lib.hid hTt
      have HKY := Lib.hid hKy
      have HKK := Lib.hid hkp
      have HKN := Lib.hid hKN
      have HK := Lib.hid hK
      have HKNL := Lib.hid HKL.out.1
      clear hTt hKy hkp hKN hK hfe qp qc hok hM hF hnc
      go_upto_region 8 with (fail)
      go_cut [49] (fun s49 wx => s49 = .bool false ∧ wx = wr)
      case first =>
        by_cases hg1 : k < us.length
        · have hg2 : ¬ k < 60 := fun h => hgo ⟨hg1, h⟩
          go_wp2_with fail
          go_meet
          exact ⟨by simp; omega, rfl⟩
        · go_wp2_with fail
          go_meet
          exact ⟨rfl, rfl⟩
      case rest =>
        obtain ⟨rfl, rfl⟩ := hcut
        clear q5 lp
        rename World => wz
        go_wp2_with fail
        refine (HKY.out _).mono ?_
        rintro e w5 ⟨rfl, hE35⟩
        have HE35 := Lib.hid hE35
        have HE5 := Lib.hid (hEr.trans' hE35)
        clear c0 c1 c2 c3 c4 lc HKY hE35
        go_wp2_with fail
        go_loopw [12, 13, 14] (fun u12 u13 u14 wr => ∃ (k : Nat) (last : Int) (cs : List Int), k ≤ 12 ∧ k ≤ n ∧ u14 = .int .i64 k ∧ u13 = .int .u64 last ∧ Gath w5 wr KN 0 k (.slice none 0 0) u12 last [] cs) (fun _ _ u14 _ => 12 - (intOf u14).toNat)
        case atStart => exact ⟨0, 0, [], by omega, by omega, rfl, rfl, ⟨by simp, by simp, by simp, fun j hj => by simp at hj, fun c hc => by simp at hc, by simp, by omega, by omega, ⟨rfl, .inl ⟨rfl, rfl⟩⟩, ⟨rfl, .inl ⟨rfl, rfl⟩⟩, Ext.refl _⟩⟩
        case round =>
          obtain ⟨k2, last, cs, hk12, hkn, rfl, rfl, hG⟩ := hrel
          have HG := Lib.hid hG
          have hl0 := hG.l0
          have hl1 := hG.l1
          obtain ⟨p12, c12, rfl⟩ := own_sl hG.r11
          clear hG
          by_cases hgo2 : k2 < n ∧ k2 < 12
          · obtain ⟨hg1, hg2⟩ := hgo2
            obtain ⟨gl, off, rfl, hgl, hc⟩ := HKL.out.2.2.resolve_left (fun h => by omega)
            have hEr2 := HE5.out.trans' HG.out.ext
            have hcc := ((bcell hEr2).1 _ _ hgl).trans (hc k2 hg1)
            have hgl2 := Nat.lt_of_lt_of_le hgl hEr2.size
            have hxu := HI.out (l.getD k2 0) (by have := HKNL.out; simp [List.getD, show k2 < l.length by omega])
            clear hc
            generalize l.getD k2 0 = y at *
            obtain ⟨hy0, hy1⟩ := hxu
            clear hEr2
            obtain ⟨m, hm⟩ : ∃ m, KN.tdiv 4 = m := ⟨_, rfl⟩
            have hmb : 0 ≤ m ∧ m ≤ 150000000000000000 := by
              rw [← hm, Int.tdiv_eq_ediv_of_nonneg (by omega)]; omega
            obtain ⟨hm0, hm1⟩ := hmb
            obtain ⟨z, hz⟩ : ∃ z, y.tmod (m + 1) = z := ⟨_, rfl⟩
            have hzb : 0 ≤ z ∧ z ≤ m := by
              rw [← hz, Int.tmod_eq_emod_of_nonneg hy0]
              have h1 := Int.emod_nonneg y (show m + 1 ≠ 0 by omega)
              have h2 := Int.emod_lt_of_pos y (show 0 < m + 1 by omega)
              omega
            obtain ⟨hz0, hz1⟩ := hzb
            have hsr := HG.out.ext.size
            have hclk := HG.out.cl
            have R11 := Lib.hid HG.out.r11
            generalize hcl' : cs.length = nc at *
            have HNC := Lib.hid hcl'
            clear hcl'
            have hEW := HG.out.ext
            have hsW := hEW.size
            by_cases hlt : last + 1 + z < KN
            · go_wp2_with (at_builtin; go_loud (refine wpList_appK wr 1 8 1 (by decide) (by decide) [.int .u64 (last + 1 + z)] rfl (by simp [Value.oneCell']) _ nc _ w5.heap.size 22 _ (R11.out) 110 rfl _ _ rfl info_u64 Tryz.underlying110 _ rfl (by rfl) (by rfl) (by omega) hsW ?_))
              intro v8 w8 g3 g4 _
              have hE8 : Ext w5 w8 := ext_grown hEW g4 (fun j hj => own_geB (R11.out) hj)
              have hcl2 : (cs ++ [last + 1 + z]).length = nc + 1 := by rw [List.length_append, HNC.out]; rfl
              have hGN : Gath w5 w8 KN 0 (k2 + 1) (.slice none 0 0) v8 (last + 1 + z) [] (cs ++ [last + 1 + z]) := ⟨by simp, by rw [hcl2]; omega, by simp, rise_snoc HG.out.ri (fun c hc => by have := HG.out.le c hc; omega), fun c hc => by
                rcases List.mem_append.1 hc with hc | hc
                · exact HG.out.inn c hc
                · rw [List.mem_singleton.1 hc]; omega, fun c hc => by
                rcases List.mem_append.1 hc with hc | hc
                · have := HG.out.le c hc; omega
                · rw [List.mem_singleton.1 hc]; exact Int.le_refl _, by omega, by omega, ⟨rfl, .inl ⟨rfl, rfl⟩⟩, by rw [hcl2, u64s_append]; exact g3, hE8⟩
              obtain ⟨p8, c8, rfl⟩ := own_sl g3
              have HGN := Lib.hid hGN
              clear g3 g4 hGN
              go_wp2
              go_roundw
              case rel => exact ⟨k2 + 1, last + 1 + z, _, by omega, by omega, by go_num, rfl, HGN.out⟩
              case measure => simp [intOf] <;> omega
            · have hGN : Gath w5 wr KN 0 (k2 + 1) (.slice none 0 0) _ (last + 1 + z) [] cs := ⟨by simp, by rw [HNC.out]; omega, by simp, HG.out.ri, HG.out.inn, fun c hc => by have := HG.out.le c hc; omega, by omega, by omega, ⟨rfl, .inl ⟨rfl, rfl⟩⟩, by rw [HNC.out]; exact R11.out, hEW⟩
              have HGN := Lib.hid hGN
              clear hGN
              go_wp2
              go_roundw
              case rel => exact ⟨k2 + 1, last + 1 + z, _, by omega, by omega, by go_num, rfl, HGN.out⟩
              case measure => simp [intOf] <;> omega
          · have hge : ¬ k2 < n ∨ ¬ k2 < 12 := by omega
            clear hgo2
            rename World => wo
            go_upto_region 17 with (fail)
            go_cut [75] (fun s75 wx => s75 = .bool false ∧ wx = wo)
            case first =>
              by_cases hgl : k2 < n
              · have hg6 : ¬ k2 < 12 := by omega
                go_wp2_with fail
                go_meet
                exact ⟨by first | rfl | exact congrArg Value.bool (decide_eq_false (by omega)), rfl⟩
              · first
                  | (go_wp2_with fail
                     go_meet
                     exact ⟨rfl, rfl⟩)
                  | (clear hge
                     go_wp2_with fail
                     go_meet
                     exact ⟨by first | rfl | exact congrArg Value.bool (decide_eq_false (by omega)), rfl⟩)
            case rest =>
              obtain ⟨rfl, rfl⟩ := hcut
              rename World => wo
              have hEo := HE35.out.trans' HG.out.ext
              obtain ⟨f2, hf2⟩ : ∃ f : Int × Int → Int × Int, (fun x => rangR B (ptK C B us) x.1 x.2) = f := ⟨_, rfl⟩
              have hR : ∀ a b, U64 a → U64 b → ∀ W', Ext wo W' → Calls Tryz.prog 80 #[.pointer (some ⟨s, 0, none⟩), .int .u64 a, .int .u64 b] W' fun e w' => e = .returned (.tuple #[.int .i64 (f2 (a, b)).1, .int .i64 (f2 (a, b)).2]) ∧ Ext W' w' := fun a b ha hb W' hE => by
                rw [← hf2]
                exact (Range_c s g C B L _ W' (HK.out.ext (hEo.trans' hE)) _ (uniq_fed C B us) (ptK_I64 C B us) a b ha hb).mono fun e w' h => rang_of h
              have hcU : ∀ c ∈ cs, U64 c := fun a ha => by have := HG.out.inn a ha; unfold U64; omega
              have hcl := HG.out.cl
              have hhi := Hist_c s g C B L _ wo (HK.out.ext hEo) f2 cs p12 c12 (UAt.of_row HG.out.r11) hcU (by omega) hR
              rw [HKN.out, hist_ok HG.out.ri HG.out.inn] at hhi
              have hK1 : 1 ≤ KN := by rw [HKK.out]; exact Int.pow_pos (by decide)
              have hf2ok : ∀ x ∈ spansL KN 0 cs, f2 x = (betK C us 60 x.1 x.2, 0) := fun x hx => by
                obtain ⟨j, hj, rfl⟩ := spans_mem hx
                obtain ⟨h0, h1, h2⟩ := spans_ok HG.out.ri HG.out.inn hK1 hj
                have h2 : ((spansL KN 0 cs).getD j (0, 0)).2 < (2 : Int) ^ B := by rw [← HKK.out]; exact h2
                rw [← cv_eq HOK.out HB.out hus (fun n _ => HX.out n) h0 h1 h2, ← hf2]
                exact rang_ok h1 h2 (cv_I64 hBd us _ _)
              have he2 : eachR f2 (spansL KN 0 cs) = ((spansL KN 0 cs).map fun x => (f2 x).1, 0) := eachR_ok (fun x hx => by rw [hf2ok x hx])
              rw [he2] at hhi
              have hsl : ((spansL KN 0 cs).map fun x => (f2 x).1).length = cs.length + 1 := by rw [List.length_map, spans_len]
              have HF2 := Lib.hid hf2ok
              have HHI := Lib.hid hhi
              have HSL := Lib.hid hsl
              clear hhi hR hcU hf2 hf2ok he2 hsl
              generalize hcl' : cs.length = nc at *
              have HNC := Lib.hid hcl'
              clear hcl'
              go_wp2_with fail
              refine Calls.mono HHI.out ?_
              rintro e wb ⟨vb, rfl, hob, hxb⟩
              dsimp only at hob ⊢
              rw [HSL.out] at hob
              obtain ⟨pb, cb, rfl⟩ := own_sl hob
              have HHB := Lib.hid (IntsAt.of_row hob)
              have hEb := hEo.trans' hxb
              have HEB := Lib.hid hEb
              have HCU := Lib.hid ((UAt.of_row HG.out.r11).ext hxb)
              clear hob HHI HSL hxb hEb
              go_wp2_with fail
              go_loopw [17, 18, 19] (fun u17 u18 u19 wr => ∃ (j : Nat) (a : Int), j ≤ nc + 1 ∧ u19 = .int .i64 j ∧ u18 = .int .u64 a ∧ u17 = .int .i64 (betK C us 60 0 (a - 1)) ∧ 0 ≤ a ∧ a ≤ KN ∧ (j ≤ nc → a = ((spansL KN 0 cs).getD j (0, 0)).1) ∧ (nc < j → a = KN) ∧ Ext wb wr) (fun _ _ u19 _ => nc + 1 - (intOf u19).toNat)
              case atStart => exact ⟨0, 0, Nat.zero_le _, rfl, rfl, by rw [betK_none C us 0], Int.le_refl 0, by omega, fun _ => by rw [spans_getD KN 0 cs 0 (Nat.zero_le _)]; rfl, fun h => by omega, Ext.refl _⟩
              case round =>
                obtain ⟨j, a, hj, rfl, rfl, rfl, ha0, haK, haj, hend, hE⟩ := hrel
                have hEz := HEB.out.trans' hE
                by_cases hlt : j < nc + 1
                · have hjn : j ≤ nc := by omega
                  have hje := haj hjn
                  have hjc : j ≤ cs.length := by rw [HNC.out]; exact hjn
                  have hjs : j < (spansL KN 0 cs).length := by rw [spans_len]; omega
                  obtain ⟨o1, o2, o3⟩ := spans_ok HG.out.ri HG.out.inn hK1 hjc
                  have hx2 := HF2.out ((spansL KN 0 cs).getD j (0, 0)) (by simp [List.getD, hjs])
                  have hsp := spans_getD KN 0 cs j hjc
                  have hnext : j + 1 ≤ nc → ((spansL KN 0 cs).getD (j + 1) (0, 0)).1 = cs.getD j 0 := fun h => by
                    rw [spans_getD KN 0 cs (j + 1) (by rw [HNC.out]; exact h)]; rfl
                  obtain ⟨gh, offh, rfl, hgh, hch⟩ := (HHB.out.ext hE).oneH hlt
                  rw [map_getD2 hjs] at hch
                  generalize (spansL KN 0 cs).getD j (0, 0) = xx at *
                  obtain ⟨x1, x2⟩ := xx
                  have e2 : x2 = if j < cs.length then cs.getD j 0 - 1 else KN - 1 := congrArg Prod.snd hsp
                  dsimp only at hje o1 o2 o3 hx2 hch
                  obtain rfl : a = x1 := hje
                  rw [hx2] at hch
                  dsimp only at hch
                  have hadd := betK_add C us (a := 0) (b := a) (c := x2) o1 (by omega)
                  have hb1 := betK_bd C us (Nat.le_refl 60) 0 (a - 1)
                  have hb2 := betK_bd C us (Nat.le_refl 60) a x2
                  have hBE : ∀ W', Ext wr W' → Calls Tryz.prog 82 #[.agg #[.int .i64 C.bits, .int .i64 C.rows, .int .i64 C.width, .int .i64 C.mode, .int .u64 C.seed], .slice vp us.length vc, .int .u64 a, .int .u64 x2] W' (fun e w' => e = .returned (.int .i64 (betK C us 60 a x2)) ∧ Ext W' w') := fun W' h => Between16_c us hus (.slice vp us.length vc) C HOK.out a x2 (by unfold U64; omega) (by unfold U64; omega) W' (HV.out.ext ((hEr.trans' hEz).trans' h)) hul
                  have qp3 := hEz.keep HQP.out
                  have hC3 := (CfgAt.of HQC.out).ext hEz
                  have c0 := hC3.c0
                  have c1 := hC3.c1
                  have c2 := hC3.c2
                  have c3 := hC3.c3
                  have c4 := hC3.c4
                  have cl := hC3.lt
                  have p5 := (cell_of qp3 5).trans rfl
                  have pl := lt_of qp3
                  have HNX := Lib.hid hnext
                  have HADD := Lib.hid hadd
                  clear hsp hx2 hnext haj hend hjs hjc hC3 qp3 hadd
                  by_cases hjc2 : j < nc
                  · obtain ⟨gc, offc, rfl, hgc, hcc⟩ := (HCU.out.ext hE).one hjc2
                    rw [HNC.out, if_pos hjc2] at e2
                    generalize cs.getD j 0 = y at *
                    subst e2
                    generalize betK C us 60 0 (a - 1) = s1 at *
                    generalize betK C us 60 a (y - 1) = s2 at *
                    obtain ⟨hs1, hs2⟩ := hb1
                    obtain ⟨hs3, hs4⟩ := hb2
                    have hwp1 : IntKind.u64.wrap (KN - 1) = KN - 1 := by rw [IntKind.wrap_u64]; omega
                    have hwp : IntKind.u64.wrap (y - 1) = y - 1 := by rw [IntKind.wrap_u64]; omega
                    have hwp2 : IntKind.u64.wrap y = y := by rw [IntKind.wrap_u64]; omega
                    have hne : (s2 != s2) = false := by simp
                    go_wp2
                    refine wp_region_after (by kernel_rfl) (by kernel_rfl) ?_
                    repeat (go_big_quiet_step ((go_at_call 82; with_reducible exact quiet_after (hBE _ (After.h _)))))
                    refine wpQuiet_nil ?_
                    rintro _ ⟨xx, rfl⟩
                    obtain ⟨w7, hb7⟩ := xx
                    try dsimp only
                    have hE7 := hE.trans' hb7
                    have hch2 := ((bcell hb7).1 _ _ hgh).trans hch
                    have hgh2 := Nat.lt_of_lt_of_le hgh hb7.size
                    clear hch hgh
                    clear hBE hb7 c0 c1 c2 c3 c4 cl p5 pl hcc
                    go_wp2
                    go_roundw
                    case rel => exact ⟨j + 1, y, by omega, by go_num, rfl, by rw [← HADD.out], by omega, by omega, fun h => (HNX.out h).symm, fun h => by omega, hE7⟩
                    case measure => simp [intOf]; omega
                  · obtain rfl : j = nc := by omega
                    rw [HNC.out, if_neg (by omega)] at e2
                    subst e2
                    generalize betK C us 60 0 (a - 1) = s1 at *
                    generalize betK C us 60 a (KN - 1) = s2 at *
                    obtain ⟨hs1, hs2⟩ := hb1
                    obtain ⟨hs3, hs4⟩ := hb2
                    have hwp1 : IntKind.u64.wrap (KN - 1) = KN - 1 := by rw [IntKind.wrap_u64]; omega
                    have hwp2 : IntKind.u64.wrap KN = KN := by rw [IntKind.wrap_u64]; omega
                    have hne : (s2 != s2) = false := by simp
                    go_wp2
                    refine wp_region_after (by kernel_rfl) (by kernel_rfl) ?_
                    repeat (go_big_quiet_step ((go_at_call 82; with_reducible exact quiet_after (hBE _ (After.h _)))))
                    refine wpQuiet_nil ?_
                    rintro _ ⟨xx, rfl⟩
                    obtain ⟨w7, hb7⟩ := xx
                    try dsimp only
                    have hE7 := hE.trans' hb7
                    have hch2 := ((bcell hb7).1 _ _ hgh).trans hch
                    have hgh2 := Nat.lt_of_lt_of_le hgh hb7.size
                    clear hch hgh
                    clear hBE hb7 c0 c1 c2 c3 c4 cl p5 pl
                    go_wp2
                    go_roundw
                    case rel => exact ⟨j + 1, KN, by omega, by go_num, rfl, by rw [← HADD.out], by omega, Int.le_refl KN, fun h => by omega, fun _ => rfl, hE7⟩
                    case measure => simp [intOf] <;> omega
                · obtain rfl : a = KN := hend (by omega)
                  obtain rfl : j = nc + 1 := by omega
                  clear haj hend
                  have hTot := HTT.out _ hEz
                  generalize betK C us 60 0 (a - 1) = T at *
                  have HTOT := Lib.hid hTot
                  clear hTot
                  go_wp2_with fail
                  refine Calls.mono HTOT.out ?_
                  rintro e w9 ⟨rfl, hx9⟩
                  go_wp2
                  go_ret
                  exact ⟨rfl, hEr.trans' (hEz.trans' hx9)⟩
end Go.Proofs.YtfhdjekpdifajaaGreat
namespace Go.Proofs.YtfhdjekpdifajaaGreat
set_option linter.unusedVariables false
open Go.ChangeShapes Go.WideShapes Go.ChangeAt Go.RowKit Go.Deep
theorem wf_u64 {x : Int} (h : (Lit.int IntKind.u64 x).wf = true) : U64 x := by
  have := bounds_u64 h
  exact ⟨this.1, by omega⟩
theorem wf_i64 {x : Int} (h : (Lit.int IntKind.i64 x).wf = true) : I64 x := by
  have := bounds_i64 h
  exact ⟨this.1, by omega⟩
section
variable {H : Type} {enc : TypeId × Value → H} {w : World} {base : Nat} {spare : Nat → Bool} {held : Bool}
set_option maxRecDepth 100000 in
/-- Five cells that read as a config. -/
theorem cfg_of {n : Nat} {cs : List Value} {y : DataW H × List MemPlace} (h : DataW.trod enc Tryz.prog w base spare held n 24 cs = some y) :
    ∃ C : Cfg, C.Raw ∧ cs = [.int .i64 C.bits, .int .i64 C.rows, .int .i64 C.width, .int .i64 C.mode, .int .u64 C.seed] := by
  obtain ⟨xs, n, _, _, hl, hx, hg⟩ := DataW.trod_struct Tryz.underlying24 h
  have hl' : cs.length = 5 := hl.trans (by kernel_rfl)
  match cs, hl' with
  | [c0, c1, c2, c3, c4], _ =>
    have hx' : xs.length = 5 := hx.trans (by kernel_rfl)
    match xs, hx' with
    | [x0, x1, x2, x3, x4], _ =>
      have e0 : DataW.trod enc Tryz.prog w base spare held n 3 [c0] = some x0 := hg 0 _ rfl
      have e1 : DataW.trod enc Tryz.prog w base spare held n 3 [c1] = some x1 := hg 1 _ rfl
      have e2 : DataW.trod enc Tryz.prog w base spare held n 3 [c2] = some x2 := hg 2 _ rfl
      have e3 : DataW.trod enc Tryz.prog w base spare held n 3 [c3] = some x3 := hg 3 _ rfl
      have e4 : DataW.trod enc Tryz.prog w base spare held n 22 [c4] = some x4 := hg 4 _ rfl
      obtain ⟨a0, h0, _, w0⟩ := DataW.trod_int Tryz.underlying3 e0
      obtain ⟨a1, h1, _, w1⟩ := DataW.trod_int Tryz.underlying3 e1
      obtain ⟨a2, h2, _, w2⟩ := DataW.trod_int Tryz.underlying3 e2
      obtain ⟨a3, h3, _, w3⟩ := DataW.trod_int Tryz.underlying3 e3
      obtain ⟨a4, h4, _, w4⟩ := DataW.trod_int Tryz.underlying22 e4
      simp only [List.cons.injEq, and_true] at h0 h1 h2 h3 h4
      exact ⟨⟨a0, a1, a2, a3, a4⟩, ⟨wf_i64 w0, wf_i64 w1, wf_i64 w2, wf_i64 w3, wf_u64 w4⟩, by rw [h0, h1, h2, h3, h4]⟩
set_option maxRecDepth 100000 in
/-- Two cells that read as an update. -/
theorem upd_of {n : Nat} {cs : List Value} {y : DataW H × List MemPlace} (h : DataW.trod enc Tryz.prog w base spare held n 138 cs = some y) :
    ∃ u : Int × Int, (U64 u.1 ∧ I64 u.2) ∧ cs = [.int .u64 u.1, .int .i64 u.2] := by
  obtain ⟨xs, n, _, _, hl, hx, hg⟩ := DataW.trod_struct Tryz.underlying138 h
  have hl' : cs.length = 2 := hl.trans (by kernel_rfl)
  match cs, hl' with
  | [c0, c1], _ =>
    have hx' : xs.length = 2 := hx.trans (by kernel_rfl)
    match xs, hx' with
    | [x0, x1], _ =>
      have e0 : DataW.trod enc Tryz.prog w base spare held n 22 [c0] = some x0 := hg 0 _ rfl
      have e1 : DataW.trod enc Tryz.prog w base spare held n 2 [c1] = some x1 := hg 1 _ rfl
      obtain ⟨a0, h0, _, w0⟩ := DataW.trod_int Tryz.underlying22 e0
      obtain ⟨a1, h1, _, w1⟩ := DataW.trod_int Tryz.underlying2 e1
      simp only [List.cons.injEq, and_true] at h0 h1
      exact ⟨(a0, a1), ⟨wf_u64 w0, wf_i64 w1⟩, by rw [h0, h1]⟩
theorem add_plain0 (b off i : Nat) : (Addr.add ⟨b, off, none⟩ i) = ⟨b, off + i, none⟩ := by
  unfold Addr.add
  by_cases h : i = 0
  · subst h; simp
  · simp [h]
theorem choose_list {α : Type} (P : Nat → α → Prop) : ∀ n, (∀ i, i < n → ∃ x, P i x) → ∃ l : List α, l.length = n ∧ ∀ i (h : i < l.length), P i l[i] := by
  intro n
  induction n with
  | zero => intro _; exact ⟨[], rfl, fun i h => by simp at h⟩
  | succ n ih =>
    intro h
    obtain ⟨l, hl, hP⟩ := ih (fun i hi => h i (by omega))
    obtain ⟨x, hx⟩ := h n (by omega)
    refine ⟨l ++ [x], by simp [hl], fun i hi => ?_⟩
    by_cases e : i < l.length
    · rw [List.getElem_append_left e]; exact hP i e
    · have : i = n := by simp at hi; omega
      subst this
      rw [List.getElem_append_right (by omega)]
      simp [hl, hx]
/-- A cell that reads as a slice of updates. -/
theorem ups_of {n : Nat} {v : Value} {y : DataW H × List MemPlace} (h : DataW.trod enc Tryz.prog w 0 (fun _ => true) held n 105 [v] = some y) :
    ∃ us : List (Int × Int), UpsOk us ∧ UpsAt w v us ∧ (us = [] ∨ ∃ el sp : List (DataW H), y.1 = .slice el sp ∧ el.length = us.length) := by
  rcases open_slice Tryz.underlying105 h with ⟨hcs, _⟩ | ⟨a, len, cap, m, n', D, Pl, hcs, _, hlc, hcm, hm, hx, hi⟩
  · simp only [List.cons.injEq, and_true] at hcs
    subst hcs
    exact ⟨[], (by intro u hu; cases hu), .inl ⟨⟨_, rfl⟩, rfl⟩, .inl rfl⟩
  · simp only [List.cons.injEq, and_true] at hcs
    subst hcs
    simp only [if_true] at hm
    rw [hm] at hi hx
    clear hm
    have hC : Tryz.prog.cellsOf 138 = 2 := by kernel_rfl
    rw [hC] at hi
    have key : ∀ i, i < len → ∃ u : Int × Int, (U64 u.1 ∧ I64 u.2) ∧ w.cell? (a.add (i * 2)) = some (.int .u64 u.1) ∧ w.cell? (a.add (i * 2 + 1)) = some (.int .i64 u.2) := by
      intro i hil
      obtain ⟨cs', hc, ht⟩ := hi i (by omega)
      obtain ⟨u, hu, rfl⟩ := upd_of ht
      obtain ⟨_, _, hat⟩ := World.cells?_some hc
      refine ⟨u, hu, ?_, ?_⟩
      · have := hat 0 (by omega); rw [add_add, Nat.add_zero] at this; exact this
      · have := hat 1 (by omega); rw [add_add] at this; exact this
    obtain ⟨us, hul, hus⟩ := choose_list _ len key
    by_cases h0 : cap = 0
    · have hl0 : len = 0 := by omega
      subst hl0 h0
      obtain rfl : us = [] := List.length_eq_zero_iff.1 hul
      exact ⟨[], (by intro u hu; cases hu), .inl ⟨⟨_, rfl⟩, rfl⟩, .inl rfl⟩
    · obtain ⟨cs', hc, ht⟩ := hi 0 (by omega)
      obtain ⟨u, _, rfl⟩ := upd_of ht
      obtain ⟨_, _, hat⟩ := World.cells?_some hc
      have h1 := hat 0 (by omega)
      obtain ⟨b, off, spot⟩ := a
      have hspot : spot = none := by simpa [Addr.add] using World.cell?_spot h1
      subst hspot
      have hb : b < w.heap.size := by
        rcases Nat.lt_or_ge b w.heap.size with h' | h'
        · exact h'
        · simp [World.cell?, Addr.add, Array.getElem?_eq_none h'] at h1
      refine ⟨us, ?_, .inr ⟨b, off, cap, by rw [hul], hb, fun k hk => ?_⟩, .inr ⟨_, _, by rw [hx], by simp [hul]⟩⟩
      · intro u hu
        obtain ⟨i, hi', rfl⟩ := List.getElem_of_mem hu
        exact (hus i hi').1
      · have := (hus k hk).2
        have hg : us.getD k (0, 0) = us[k] := by simp [hk]
        rw [hg]
        rw [add_plain0, add_plain0] at this
        simpa only [Nat.add_assoc] using this
theorem reach_of {ts : List TypeId} {ds : List (DataW H)} {j : Nat} {t : TypeId} {d : DataW H} (hsz : (DataW.weightsEach Tryz.prog ts ds).all (· ≤ reachBytes) = true) (ht : ts[j]? = some t) (hd : ds[j]? = some d) {n : Nat} (hn : n ∈ d.weights Tryz.prog t) : n ≤ reachBytes := by
  have := List.all_eq_true.1 hsz _ (DataW.weights_mem_each ht hd n hn)
  simpa using this
end
end Go.Proofs.YtfhdjekpdifajaaGreat
namespace Go.Proofs.YtfhdjekpdifajaaGreat
set_option linter.unusedVariables false
open Go.ChangeShapes Go.WideShapes Go.ChangeAt Go.RowKit Go.Deep
theorem own : ownKnob Tryz.prog.godebug = none := by kernel_rfl
theorem laidOut : laidOutB Tryz.prog = true := by kernel_rfl
section
variable {H : Type} {enc : TypeId × Value → H} {w : World} {held : Bool}
end
end Go.Proofs.YtfhdjekpdifajaaGreat
namespace Go.Proofs.YtfhdjekpdifajaaGreat
set_option linter.unusedVariables false
open Go.ChangeShapes Go.WideShapes Go.ChangeAt Go.RowKit Go.Deep
section
variable {H : Type} {enc : TypeId × Value → H} {w : World} {held : Bool}
set_option maxRecDepth 100000 in
theorem uintsarg_of {r : Reach} {b0 : Nat} {v : Value} {d : DataW H} {p : List MemPlace} (hv : Value.okWide Tryz.prog w r b0 110 v) (h : DataW.Trod enc Tryz.prog w 0 (fun _ => true) held 110 v d p) :
    ∃ (l : List Int) (q : Option Addr) (n cap : Nat), allU l ∧ USl w q n cap l ∧ v = .slice q n cap ∧
      ∀ (ts : List TypeId) (ds : List (DataW H)) (j : Nat), (DataW.weightsEach Tryz.prog ts ds).all (· ≤ reachBytes) = true → ts[j]? = some 110 → ds[j]? = some d → n ≤ 281474976710656 := by
  obtain ⟨q, n, cap, rfl⟩ := okWide_slice Tryz.underlying110 hv
  obtain ⟨fuel, hf⟩ := h
  rcases open_ints Tryz.underlying110 Tryz.underlying22 (by kernel_rfl) hf with ⟨hcs, _⟩ | ⟨a, len, cap', zs, hcs, _, hlc, hcm, hzl, hx, hi, hwf⟩
  · have hcs' : [Value.slice q n cap] = [Value.slice none 0 0] := hcs
    simp only [List.cons.injEq, and_true, Value.slice.injEq] at hcs'
    obtain ⟨rfl, rfl, rfl⟩ := hcs'
    exact ⟨[], none, 0, 0, (by intro x hx; cases hx), ⟨rfl, Nat.le_refl _, .inl ⟨rfl, fun _ => rfl⟩⟩, rfl, fun _ _ _ _ _ _ => Nat.zero_le _⟩
  · have hcs' : [Value.slice q n cap] = [Value.slice (some a) len cap'] := hcs
    simp only [List.cons.injEq, and_true, Value.slice.injEq] at hcs'
    obtain ⟨rfl, rfl, rfl⟩ := hcs'
    simp only [if_true] at hzl
    refine ⟨zs.take n, some a, n, cap, ?_, ⟨by rw [List.length_take]; omega, hlc, ?_⟩, rfl, ?_⟩
    · intro x hx'
      exact wf_u64 (hwf x (List.mem_of_mem_take hx'))
    · by_cases h0 : n = 0
      · exact .inl ⟨h0, fun h => by cases h⟩
      · have h1 := hi 0 (by omega)
        obtain ⟨b, off, spot⟩ := a
        have hspot : spot = none := by simpa [Addr.add] using World.cell?_spot h1
        subst hspot
        have hb : b < w.heap.size := by
          rcases Nat.lt_or_ge b w.heap.size with h' | h'
          · exact h'
          · simp [World.cell?, Addr.add, Array.getElem?_eq_none h'] at h1
        refine .inr ⟨b, off, rfl, hb, fun k hk => ?_⟩
        have := hi k (by omega)
        rw [add_plain0] at this
        rw [this]
        simp [List.getElem?_take_of_lt hk]
    · intro ts ds j hs ht hj
      have hb : Tryz.prog.bytesOf 22 = 8 := by kernel_rfl
      simp only [Prod.mk.injEq] at hx
      have := reach_of hs ht hj (n := ((lits .u64 (zs.take n)).length + (lits .u64 (zs.drop n)).length) * Tryz.prog.bytesOf 22) (by
        rw [hx.1]
        simp [DataW.weights, DataW.weightsEach, Tryz.underlying110]
        exact .inl rfl)
      rw [hb] at this
      simp only [reachBytes, lits, List.length_map, List.length_take, List.length_drop] at this
      omega
end
end Go.Proofs.YtfhdjekpdifajaaGreat
namespace Go.Proofs.YtfhdjekpdifajaaGreat
set_option linter.unusedVariables false
open Go.ChangeShapes Go.WideShapes Go.ChangeAt Go.RowKit Go.Deep
section
variable {H : Type} {enc : TypeId × Value → H} {w : World} {held : Bool}
set_option maxRecDepth 100000 in
theorem play19_of {r : Reach} {b0 : Nat} {v : Value} {d : DataW H} {p : List MemPlace} (hv : Value.okWide Tryz.prog w r b0 107 v) (h : DataW.Trod enc Tryz.prog w 0 (fun _ => true) held 107 v d p) :
    ∃ (x : Cfg) (us : List (Int × Int)) (u : Value), x.Raw ∧ UpsOk us ∧ UpsAt w u us ∧ v = .agg #[.int .i64 x.bits, .int .i64 x.rows, .int .i64 x.width, .int .i64 x.mode, .int .u64 x.seed, u] ∧
      ∀ (ts : List TypeId) (ds : List (DataW H)) (j : Nat), (DataW.weightsEach Tryz.prog ts ds).all (· ≤ reachBytes) = true → ts[j]? = some 107 → ds[j]? = some d → us.length ≤ 140737488355328 := by
  obtain ⟨cs, rfl, hsz⟩ := okWide_struct Tryz.underlying107 hv
  obtain ⟨fuel, hf⟩ := h
  obtain ⟨l⟩ := cs
  obtain ⟨xs, n, _, hd, hl, hx, hg⟩ := DataW.trod_struct Tryz.underlying107 hf
  have hl' : l.length = 6 := hsz.trans (by kernel_rfl)
  match l, hl' with
  | [c0, c1, c2, c3, c4, c6], _ =>
    have hx' : xs.length = 2 := hx.trans (by kernel_rfl)
    match xs, hx' with
    | [x0, x2], _ =>
      have e0 : DataW.trod enc Tryz.prog w 0 (fun _ => true) held n 24 [c0, c1, c2, c3, c4] = some x0 := hg 0 _ rfl
      have e2 : DataW.trod enc Tryz.prog w 0 (fun _ => true) held n 105 [c6] = some x2 := hg 1 _ rfl
      obtain ⟨x, hxr, hc⟩ := cfg_of e0
      obtain ⟨us, hu, hat, hlen⟩ := ups_of e2
      simp only [List.cons.injEq, and_true] at hc
      obtain ⟨rfl, rfl, rfl, rfl, rfl⟩ := hc
      simp only [Prod.mk.injEq] at hd
      refine ⟨x, us, c6, hxr, hu, hat, rfl, fun ts ds j hs ht hj => ?_⟩
      rcases hlen with rfl | ⟨el, sp, hx2, hel⟩
      · simp
      · have hb : Tryz.prog.bytesOf 138 = 16 := by kernel_rfl
        have := reach_of hs ht hj (n := (el.length + sp.length) * Tryz.prog.bytesOf 138) (by
          rw [hd.1]
          simp [DataW.weights, DataW.weightsEach, hx2, Tryz.underlying107, Tryz.underlying105])
        rw [hb] at this
        simp only [reachBytes] at this
        omega
end
end Go.Proofs.YtfhdjekpdifajaaGreat
namespace Go.Proofs.YtfhdjekpdifajaaGreat
set_option linter.unusedVariables false
open Go.ChangeShapes Go.WideShapes Go.ChangeAt Go.RowKit
set_option maxRecDepth 100000 in
theorem summaryExact_lifted (os : Os) (started : os.Started) (H : Type) (enc : TypeId × Value → H) :
    ReturnsInHanded {} Tryz.checked os 12 .any (Rows.summaryExactSpec.pre6 enc Tryz.prog Tryz.f12 Rows.summaryExactRow.domain false) (Rows.summaryExactSpec.post enc Tryz.prog Tryz.f12 false true false false) := by
  refine returnsInHanded_of_change_sized (C := Tryz.checked) own started (by kernel_rfl) Tryz.func12
    (ChangeSpec.witness6 (enc := enc) (C := Tryz.checked) false ⟨#[], #[.agg #[.int .i64 0, .int .i64 0, .int .i64 0, .int .i64 0, .int .u64 0, .slice none 0 0], .slice none 0 0], []⟩ 8 (by kernel_rfl) (by kernel_rfl) (by kernel_rfl) (by kernel_rfl)) ?_
  intro W base args ds gs before hval0 hW hcnd hsz0 _
  have hval : ∀ (j : Nat) t v, Tryz.f12.params[j]? = some t → args[j]? = some v → Value.okWide Tryz.prog W .any base t v := hval0
  have hW' := hW
  obtain ⟨p, q, hA0, hV, rfl, hfz, hnd⟩ := hW
  have hA : DataW.TrodAll enc Tryz.prog W 0 (fun _ => true) true Tryz.f12.params.toList args.toList ds p := hA0
  have hsz : (DataW.weightsEach Tryz.prog (Tryz.f12.params.toList ++ Rows.summaryExactSpec.plain.varTypes Tryz.prog) (ds ++ gs)).all (· ≤ reachBytes) = true := hsz0
  rw [Tryz.params12] at hA hval hsz
  obtain ⟨v0, vs0, d0, ds0, p0, q0, hargs, rfl, rfl, h0, r0⟩ := trodAll_cons hA
  obtain ⟨v1, vs1, d1, ds1, p1, q1, rfl, rfl, rfl, h1, r1⟩ := trodAll_cons r0
  obtain ⟨rfl, rfl, rfl⟩ := trodAll_nil r1
  obtain rfl : args = #[v0, v1] := by cases args; simp_all
  obtain ⟨rfl, rfl⟩ := trodVars_none hV
  have k0 := h0
  have k1 := h1
  have lt0 : ∀ x ∈ p0, x.block < W.heap.size := by obtain ⟨m, hm⟩ := k0; exact DataW.trod_lt m _ _ _ hm
  have lt1 : ∀ x ∈ p1, x.block < W.heap.size := by obtain ⟨m, hm⟩ := k1; exact DataW.trod_lt m _ _ _ hm
  obtain ⟨x0, us0, u0, hx0, hus0, hat0, rfl, hr0⟩ := play19_of (hval 0 _ v0 rfl rfl) h0
  have hul0 := hr0 _ _ 0 hsz rfl rfl
  obtain ⟨l1, q1, n1, c1, hl1, hat1, rfl, hr1⟩ := uintsarg_of (hval 1 _ v1 rfl rfl) h1
  have hul1 := hr1 _ _ 1 hsz rfl rfl
  clear hA0 hval0
  refine (SumExactL_c x0 hx0 us0 hus0 u0 W hat0 hul0 l1 q1 n1 c1 hat1 hl1 hul1).mono fun e W' ⟨he, bel⟩ => ?_
  subst he
  exact ⟨_, rfl, _, _, _, [], _, [], hW', trodAll_mk1 (shut_bool Tryz.underlying4 _), (trodAll_cons_mk (Below.trod laidOut (by kernel_rfl) (of_decide_eq_true (by kernel_rfl)) k0 bel lt0) (trodAll_cons_mk (Below.trod laidOut (by kernel_rfl) (of_decide_eq_true (by kernel_rfl)) k1 bel lt1) trodAll_mk0)), rfl, bel.frame _, fun h => by cases h⟩
end Go.Proofs.YtfhdjekpdifajaaGreat
