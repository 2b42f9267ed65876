/- Part. No condition. -/
import Derived.Test.YtfhdjekpdifajaaGreatDSummaryHistogram11
import Derived.Test.YtfhdjekpdifajaaGreatDSummaryHistogram12
import Derived.Test.YtfhdjekpdifajaaGreatDSummaryHistogram3
import Derived.Test.YtfhdjekpdifajaaGreatDSummaryHistogram4
import Derived.Test.YtfhdjekpdifajaaGreatDSummaryHistogram9
import Derived.Test.YtfhdjekpdifajaaGreatDSummaryHistogram10
import Derived.ProofKit
import Derived.OpenShut
import Derived.ChangeOld
import Derived.Below
import Derived.SizedLaws
import Derived.Deep.Slices
import Derived.Deep.Fields
import Derived.ChangeSlices
namespace Go.Proofs.YtfhdjekpdifajaaGreat
set_option linter.unusedVariables false
open Go.RowKit
set_option maxRecDepth 20000 in
set_option maxHeartbeats 4000000 in
theorem PdqQ_c (p : Option Addr) (n cap : Nat) (lim : Int) (hn : n ≤ 12) (Q : World → Prop) (w : World)
    (HI : Calls Tryz.prog 204 #[.slice p n cap, .int .i64 0, .int .i64 n, .func (.func 137) #[] #[]] w fun e w' => e = .returned (.tuple #[]) ∧ Q w') :
    Calls Tryz.prog 182 #[.slice p n cap, .int .i64 0, .int .i64 n, .int .i64 lim, .func (.func 137) #[] #[]] w fun e w' => e = .returned (.tuple #[]) ∧ Q w' := by
  have HI' := Lib.hid HI
  clear HI
  go_enter Tryz.func182, Tryz.ntmps182
  go_wp2_with fail
  refine wp_loop_rounds 1 ?_
  rw [rounds_succ]
  go_wp2_with fail
  refine Calls.mono HI'.out ?_
  rintro e w1 ⟨rfl, hq⟩
  have HQ := Lib.hid hq
  clear hq
  go_wp2
  (try simp only [Exit.inBlock, Exit.then]); refine bodyPost_ret (results_none rfl _ _ _) rfl ?_
  exact ⟨rfl, HQ.out⟩
set_option maxRecDepth 20000 in
set_option maxHeartbeats 4000000 in
theorem SortQ_c (p : Option Addr) (n cap : Nat) (hn : n ≤ 12) (Q : World → Prop) (w : World)
    (HI : Calls Tryz.prog 204 #[.slice p n cap, .int .i64 0, .int .i64 n, .func (.func 137) #[] #[]] w fun e w' => e = .returned (.tuple #[]) ∧ Q w') :
    Calls Tryz.prog 136 #[.slice p n cap, .func (.func 137) #[] #[]] w fun e w' => e = .returned (.tuple #[]) ∧ Q w' := by
  have HI' := Lib.hid HI
  clear HI
  go_enter Tryz.func136, Tryz.ntmps136
  go_wp2_with fail
  refine Calls.mono (Len_c n _ (by omega) (by omega)) ?_
  rintro e w1 ⟨rfl, rfl⟩
  go_wp2_with fail
  refine Calls.mono (PdqQ_c p n cap _ hn Q _ HI'.out) ?_
  rintro e w1 ⟨rfl, hq⟩
  have HQ := Lib.hid hq
  clear hq
  go_wp2
  go_end0
  exact ⟨rfl, HQ.out⟩
set_option maxRecDepth 20000 in
set_option maxHeartbeats 4000000 in
theorem Ins0_c (p : Option Addr) (cap : Nat) (w : World) :
    Calls Tryz.prog 204 #[.slice p 0 cap, .int .i64 0, .int .i64 0, .func (.func 137) #[] #[]] w fun e w' => e = .returned (.tuple #[]) ∧ w' = w := by
  go_enter Tryz.func204, Tryz.ntmps204
  go_wp2_with fail
  refine wp_loop_rounds 1 ?_
  rw [rounds_succ]
  go_wp2
  go_end0
  exact ⟨rfl, rfl⟩
end Go.Proofs.YtfhdjekpdifajaaGreat
namespace Go.Proofs.YtfhdjekpdifajaaGreat
set_option linter.unusedVariables false
open Go.RowKit
theorem ltC_iff (x y : Fd) : ltC x y = decide (y.2.2 < x.2.2 ∨ (y.2.2 = x.2.2 ∧ x.2.1 < y.2.1)) := by
  unfold ltC cmpV cmpI
  by_cases h1 : y.2.2 < x.2.2
  · simp [h1]
  · by_cases h2 : x.2.2 < y.2.2
    · simp [h1, h2]; omega
    · by_cases h3 : x.2.1 < y.2.1
      · simp [h1, h2, h3]; omega
      · by_cases h4 : y.2.1 < x.2.1
        · simp [h1, h2, h3, h4]
        · simp [h1, h2, h3, h4]
theorem swoC : Sort.SWO ltC where
  irrefl x := by rw [ltC_iff]; simp
  trans x y z h1 h2 := by rw [ltC_iff] at *; simp at *; omega
  ntrans x y z h1 h2 := by rw [ltC_iff] at *; simp at *; omega
/-- 'l' is 'd', sorted. -/
structure SrtOf (d l : List Fd) : Prop where
  perm : l.Perm d
  sorted : ∀ (i j : Nat) (hij : i < j) (hj : j < l.length), ltC l[j] (l[i]'(Nat.lt_trans hij hj)) = false
/-- Rows up to this length are sorted. -/
def SortsTo (N : Nat) : Prop := ∀ (base g cap : Nat) (w0 w : World) (d : Array Fd), RowD base g cap w0 w d → d.size ≤ N →
  Calls Tryz.prog 136 #[.slice (some ⟨g, 0, none⟩) d.size cap, .func (.func 137) #[] #[]] w fun e w' => e = .returned (.tuple #[]) ∧ ∃ d' : Array Fd, d'.size = d.size ∧ SrtOf d.toList d'.toList ∧ RowD base g cap w0 w' d'
theorem srt_of {d d' : Array Fd} (hp : Sort.PermIn 0 d.size d d') (hs : Sort.SortedIn ltC 0 d.size d') : d'.size = d.size ∧ SrtOf d.toList d'.toList := by
  obtain ⟨h1, _, h2⟩ := hp
  refine ⟨h1, ?_, fun i j hij hj => ?_⟩
  · rw [Array.extract_eq_self_of_le (by omega), Array.extract_eq_self_of_le (by omega)] at h2
    exact h2
  · have hj2 : j < d'.size := by rw [← Array.length_toList]; exact hj
    have := hs i j (Nat.zero_le _) hij (by omega)
    rw [getElem!_pos d' j hj2, getElem!_pos d' i (by omega)] at this
    rw [Array.getElem_toList, Array.getElem_toList]
    exact this
theorem sorts_12 : SortsTo 12 := by
  intro base g cap w0 w d h hn
  have hi := (Ins_c base g cap w0 w d 0 d.size h (Nat.zero_le _) (Nat.le_refl _) (by omega)).mono (R' := fun e w' => e = .returned (.tuple #[]) ∧ ∃ d' : Array Fd, d'.size = d.size ∧ SrtOf d.toList d'.toList ∧ RowD base g cap w0 w' d') fun e w' ⟨he, hr⟩ => by
    obtain ⟨h1, h2⟩ := Sort.insertionSort_holds swoC d 0 d.size (Nat.zero_le _) (Nat.le_refl _)
    obtain ⟨h3, h4⟩ := srt_of h1 h2
    exact ⟨he, _, h3, h4, hr⟩
  exact SortQ_c (some ⟨g, 0, none⟩) d.size cap hn _ w hi
end Go.Proofs.YtfhdjekpdifajaaGreat
namespace Go.Proofs.YtfhdjekpdifajaaGreat
set_option linter.unusedVariables false
open Go.RowKit
theorem hvGo_len (pt : Nat → Int → Int) (least budget : Int) : ∀ (m : Nat) (asked : Int) (row : List Int) (out l : List Fd), budget ≤ 4096 → (out.length : Int) ≤ asked → asked ≤ 4096 → hvGo pt least budget m asked row out = some l → l.length ≤ 4096
  | 0, asked, row, out, l, _, h1, h2, h => by
    have : out = l := Option.some.inj h
    subst this
    omega
  | m + 1, asked, row, out, l, hb, h1, h2, h => by
    by_cases hg : budget < asked + row.length
    · rw [hvGo_no hg] at h; cases h
    · rw [hvGo_yes (by omega)] at h
      have := hvF_len pt least m row
      exact hvGo_len pt least budget m _ _ _ l hb (by rw [List.length_append]; omega) (by omega) h
theorem heavyP_len (pt : Nat → Int → Int) (least budget : Int) (B : Nat) : (heavyP pt least budget B).1.length ≤ 4096 := by
  by_cases hb : least < 1 ∨ 4096 < budget
  · rw [heavyP_bad hb]; simp
  · rw [heavyP_go (by omega) (by omega)]
    match hh : hvGo pt least budget (B + 1) 0 [0] [] with
    | none => simp [hvRes]
    | some l => exact hvGo_len pt least budget _ _ _ _ l (by omega) (by simp) (by omega) hh
theorem heavyP_err (pt : Nat → Int → Int) (least budget : Int) (B : Nat) : (heavyP pt least budget B).2 = 0 ∨ (heavyP pt least budget B).1 = [] := by
  by_cases hb : least < 1 ∨ 4096 < budget
  · rw [heavyP_bad hb]; exact .inr rfl
  · rw [heavyP_go (by omega) (by omega)]
    match hvGo pt least budget (B + 1) 0 [0] [] with
    | none => exact .inr rfl
    | some l => exact .inl rfl
def TopPost (w : World) (H : List Fd × Int) (n : Int) (e : Ending) (w' : World) : Prop :=
  ∃ v S, e = .returned (.tuple #[v, .int .i64 H.2]) ∧ SrtOf (keepD H.1) S ∧ w'.ownsRow w.heap.size 130 3 v (S.take (max n 0).toNat).length (fdV (S.take (max n 0).toNat)) ∧ Ext w w'
theorem srt_nil : SrtOf [] [] := ⟨List.Perm.refl _, fun i j _ hj => by simp at hj⟩
set_option maxRecDepth 20000 in
set_option maxHeartbeats 8000000 in
theorem Top_c (N : Nat) (hS : SortsTo N) (s g : Nat) (C : Cfg) (B : Nat) (L : Nat → Lev) (ls : Nat → List Int) (w : World) (h : KAt w s g C B L ls) (pt : Nat → Int → Int) (hU : Uniq C B ls pt) (n least budget : Int)
    (hN : (keepD (heavyP pt least budget B).1).length ≤ N) :
    Calls Tryz.prog 76 #[.pointer (some ⟨s, 0, none⟩), .int .i64 n, .int .i64 least, .int .i64 budget] w (TopPost w (heavyP pt least budget B) n) := by
  have hH := Heavy_c s g C B L ls w h pt hU least budget
  have hlen := heavyP_len pt least budget B
  have herr := heavyP_err pt least budget B
  unfold HeavyPost at hH
  generalize heavyP pt least budget B = H at *
  obtain ⟨D, er⟩ := H
  dsimp only at hH hlen herr hN
  have HHV := Lib.hid hH
  have HS := Lib.hid hS
  clear hH h hU hS
  by_cases he : er = 0
  · subst he
    clear herr
    go_enter Tryz.func76, Tryz.ntmps76
    go_wp2_with fail
    refine Calls.mono HHV.out ?_
    rintro e w1 ⟨v, rfl, ho, hx1⟩
    obtain ⟨p, cap, rfl⟩ := own_sl ho
    have hdel := Delete_c w.heap.size p cap D w1 ho (by omega)
    have HDEL := Lib.hid hdel
    have HX1 := Lib.hid hx1
    clear hdel ho hx1
    generalize hld : D.length = ld at *
    go_wp2_with fail
    refine Calls.mono HDEL.out ?_
    rintro e w2 ⟨p2, cap2, rfl, ho2, hx2⟩
    have hE2 := hx2 w HX1.out (Nat.le_refl _)
    clear hx2 HDEL
    generalize hkd : keepD D = K at *
    have HKD := Lib.hid hkd
    clear hkd
    have HE2 := Lib.hid hE2
    have HO2 := Lib.hid ho2
    clear ho2 hE2
    by_cases hk : 0 < K.length
    · obtain ⟨gr, cr, hv, hb, hg, _⟩ := own_row_cells HO2.out hk
      cases hv
      have hrow : RowD w.heap.size gr cap2 w2 w2 K.toArray := ⟨by simpa using HO2.out, fun v h1 _ => h1⟩
      have hsort := HS.out w.heap.size gr cap2 w2 w2 K.toArray hrow (by simpa using hN)
      rw [show K.toArray.size = K.length by simp] at hsort
      have HSO := Lib.hid hsort
      clear hrow hsort
      generalize hlk : K.length = lk at *
      go_wp2_with fail
      refine Calls.mono HSO.out ?_
      rintro e w3 ⟨rfl, d', hd, hsr, hrow⟩
      have hown := hrow.own
      have hE3 := hrow.ext w HE2.out (Nat.le_refl _)
      rw [hd] at hown
      have HSR := Lib.hid hsr
      have HE3 := Lib.hid hE3
      have HOW := Lib.hid hown
      have HDL := Lib.hid hd
      clear hrow hown hE3 hsr hd
      have hcap : lk ≤ cap2 := by
        obtain ⟨_, _, _, hv2, _, _, hcc, _⟩ := HOW.out.2.resolve_left (fun h => by cases h.1)
        cases hv2
        exact hcc
      have hdl : d'.toList.length = lk := by rw [Array.length_toList, HDL.out]
      have HD2 := Lib.hid hdl
      clear hdl
      go_wp2
      go_ret2
      have hm : (min (max n 0) (lk : Int)).toNat = (d'.toList.take (max n 0).toNat).length := by rw [List.length_take, HD2.out]; omega
      have hml : (d'.toList.take (max n 0).toNat).length ≤ lk := by rw [List.length_take, HD2.out]; omega
      have hcut := own_cut HOW.out hml
      rw [fdV_take, List.length_take, ← List.take_eq_take_min, ← List.length_take] at hcut
      refine ⟨.slice (some ⟨gr, 0, none⟩) (min (max n 0) (lk : Int)).toNat cap2, d'.toList, rfl, by rw [show keepD (D, (0 : Int)).1 = K from HKD.out]; simpa using HSR.out, ?_, HE3.out⟩
      rw [hm]
      exact hcut
    · obtain rfl : K = [] := List.length_eq_zero_iff.1 (by omega)
      have hsort := SortQ_c p2 0 cap2 (by decide) (fun w' => w' = w2) w2 (Ins0_c p2 cap2 w2)
      have HSO := Lib.hid hsort
      have h0 : (min (max n 0) 0).toNat = 0 := by omega
      clear hsort
      go_wp2_with fail
      refine Calls.mono HSO.out ?_
      rintro e w3 ⟨rfl, rfl⟩
      go_wp2
      go_ret2
      refine ⟨.slice p2 0 cap2, [], rfl, by rw [show keepD (D, (0 : Int)).1 = [] from HKD.out]; exact srt_nil, ?_, HE2.out⟩
      rw [List.take_nil]
      exact HO2.out
  · obtain rfl : D = [] := herr.resolve_left he
    have hne : (er == 0) = false := beq_eq_false_iff_ne.2 he
    go_enter Tryz.func76, Tryz.ntmps76
    go_wp2_with fail
    refine Calls.mono HHV.out ?_
    rintro e w1 ⟨v, rfl, ho, hx1⟩
    have HX1 := Lib.hid hx1
    clear hx1 ho
    go_wp2
    go_ret2
    refine ⟨.slice none 0 0, [], rfl, srt_nil, ?_, HX1.out⟩
    rw [List.take_nil]
    exact ⟨rfl, .inl ⟨rfl, rfl⟩⟩
end Go.Proofs.YtfhdjekpdifajaaGreat
namespace Go.Proofs.YtfhdjekpdifajaaGreat
set_option linter.unusedVariables false
open Go.RowKit
def K9 : Cfg := ⟨2, 1, 4, 1, 0⟩
theorem K9_ok : K9.Ok := by constructor <;> simp [K9, U64]
def us9 : List (Int × Int) := [(1, 5), (2, 3)]
theorem us9_ok : UpsOk us9 := by
  intro u hu
  simp only [us9, List.mem_cons, List.not_mem_nil, or_false] at hu
  rcases hu with rfl | rfl <;> (constructor <;> simp [U64, I64])
theorem K9_c1 : cutK K9 0 1 = 1 := by decide
theorem K9_c2 : cutK K9 0 2 = 2 := by decide
theorem K9_d5 : cutD K9.mode 5 = 5 := by decide
theorem K9_d3 : cutD K9.mode 3 = 3 := by decide
theorem K9_s1 : updK K9 (feedK K9 []) 1 5 = feedK K9 [(1, 5)] := by
  have h := feedK_snoc K9 [] (1, 5)
  rw [K9_c1, K9_d5] at h
  exact h.symm
theorem K9_s2 : updK K9 (feedK K9 [(1, 5)]) 2 3 = feedK K9 us9 := by
  have h := feedK_snoc K9 [(1, 5)] (2, 3)
  rw [K9_c2, K9_d3] at h
  exact h.symm
theorem K9_e1 : errK K9 2 (feedK K9 []) 1 5 = 0 := by
  have h := feedK_ok K9 K9_ok (B := 2) rfl [] (by decide) (1, 5)
  rw [K9_c1, K9_d5] at h
  exact h
theorem K9_e2 : errK K9 2 (feedK K9 [(1, 5)]) 2 3 = 0 := by
  have h := feedK_ok K9 K9_ok (B := 2) rfl [(1, 5)] (by decide) (2, 3)
  rw [K9_c2, K9_d3] at h
  exact h
theorem us9_p : psU K9 us9 = [(1, 5), (2, 3)] := by decide
theorem K9_x (n : Nat) (h : n ≤ 2) : isX K9 n = true := by
  match n, h with
  | 0, _ => decide
  | 1, _ => decide
  | 2, _ => decide
def pt9 : Nat → Int → Int := pcS [(1, 5), (2, 3)]
theorem K9_u : Uniq K9 2 (feedK K9 us9) pt9 := fun n i x hn h0 h1 h => by
  have : x = ptK K9 2 us9 n i := ptK_of hn h0 h1 h
  rw [this, ptK_x K9_ok rfl us9_ok hn h0 h1 (K9_x n hn), us9_p]
  rfl
theorem pt9_I (n : Nat) (i : Int) : I64 (pt9 n i) := by
  show I64 (lsum [bif sh n 1 == i then 5 else 0, bif sh n 2 == i then 3 else 0])
  generalize (sh n 1 == i) = a
  generalize (sh n 2 == i) = b
  unfold I64
  cases a <;> cases b <;> decide
theorem K9_t : (feedK K9 us9 2).getD 0 0 = 8 := by
  have h := feed_total K9_ok (B := 2) rfl us9_ok
  rw [show fus us9 0 60 = us9 from rfl, hasK_pc, us9_p] at h
  rw [h]
  decide
theorem h9 : heavyP pt9 1 7 2 = ([(2, 0, 8), (1, 0, 5), (1, 1, 3), (0, 1, 5), (0, 2, 3)], 0) := by decide
theorem srt9 {S : List Fd} (h : SrtOf [(0, 1, 5), (0, 2, 3)] S) : S = [(0, 1, 5), (0, 2, 3)] := by
  obtain ⟨hp, hs⟩ := h
  have hl := hp.length_eq
  match S, hl with
  | [a, b], _ =>
    have h1 := hs 0 1 (by decide) (by simp)
    have ha : a ∈ [((0 : Nat), (1 : Int), (5 : Int)), (0, 2, 3)] := hp.subset (by simp)
    have hb : b ∈ [((0 : Nat), (1 : Int), (5 : Int)), (0, 2, 3)] := hp.subset (by simp)
    have hd : a ≠ b := by
      intro e
      subst e
      have := hp.nodup_iff.2 (by decide)
      simp at this
    simp only [List.mem_cons, List.not_mem_nil, or_false] at ha hb
    rcases ha with rfl | rfl <;> rcases hb with rfl | rfl
    · exact absurd rfl hd
    · rfl
    · exfalso
      revert h1
      decide
    · exact absurd rfl hd
theorem e9_q : eachR (quanR pt9 2 8) [5, 6] = ([1, 2], 0) := by decide
def f9 (x : Int × Int) : Int × Int := rangR 2 pt9 x.1 x.2
theorem k9 : keys K9 0 = 4 := by decide
theorem h9_a : histR f9 (keys K9 0) [2] = ([5, 3], 0) := by
  rw [k9, hist_ok (fun j hj => by simp at hj) (fun c hc => by simp at hc; omega)]
  decide
theorem h9_b : histR f9 (keys K9 0) [2, 2] = ([], 1) :=
  hist_rise (fun h => by have := h 0 (by decide); revert this; decide)
theorem u1 (w : World) (a : Int) (t : TypeId) : UAt (w.alloc (.cells #[.int .u64 a] t)) (.slice (some ⟨w.heap.size, 0, none⟩) 1 1) [a] := by
  have h0 := (cell_of (heap_at w (.cells #[.int .u64 a] t) rfl) 0).trans rfl
  refine .inr ⟨w.heap.size, 0, 1, rfl, by rw [size_alloc]; omega, fun k hk => ?_⟩
  match k, hk with
  | 0, _ => exact h0
theorem u2 (w : World) (a b : Int) (t : TypeId) : UAt (w.alloc (.cells #[.int .u64 a, .int .u64 b] t)) (.slice (some ⟨w.heap.size, 0, none⟩) 2 2) [a, b] := by
  have h0 := (cell_of (heap_at w (.cells #[.int .u64 a, .int .u64 b] t) rfl) 0).trans rfl
  have h1 := (cell_of (heap_at w (.cells #[.int .u64 a, .int .u64 b] t) rfl) 1).trans rfl
  refine .inr ⟨w.heap.size, 0, 2, rfl, by rw [size_alloc]; omega, fun k hk => ?_⟩
  match k, hk with
  | 0, _ => exact h0
  | 1, _ => exact h1
set_option maxRecDepth 20000 in
set_option maxHeartbeats 8000000 in
theorem shown19_c (w : World) : Calls Tryz.prog 69 #[] w fun e w' => e = .returned (.bool true) ∧ Ext w w' := by
  go_enter Tryz.func69, Tryz.ntmps69
  go_wp2_with fail
  refine (KNew_c K9 K9_ok _).mono ?_
  rintro e w1 ⟨s, g, L, rfl, hK, hs, hg, hL, hx1⟩
  have hE1 : Ext w w1 := by (repeat' (first | exact Ext.refl _ | assumption | apply Ext.allocR | apply Ext.drewR | apply Ext.drewNR | (refine Ext.trans' ?_ (by assumption))))
  have hF : KFresh w.heap.size 2 L := hL
  replace hK : KAt w1 s g K9 2 L (feedK K9 []) := hK
  clear hx1 hL hg hs
  go_wp2_with fail
  refine Calls.mono (KUpdate_c s g K9 2 L _ 1 5 _ (hK.ext ?hx) (by unfold I64; omega) (by unfold U64; omega)) ?_
  case hx => (repeat' (first | exact Ext.refl _ | assumption | apply Ext.allocR | apply Ext.drewR | apply Ext.drewNR | (refine Ext.trans' ?_ (by assumption))))
  rintro e w3 ⟨rfl, hK3, hM3⟩
  have hE3 : Ext w w3 := hF.ext (by (repeat' (first | exact Ext.refl _ | assumption | apply Ext.allocR | apply Ext.drewR | apply Ext.drewNR | (refine Ext.trans' ?_ (by assumption))))) hM3
  rw [K9_e1] at hK3 ⊢
  replace hK3 : KAt w3 s g K9 2 L (updK K9 (feedK K9 []) 1 5) := hK3
  rw [K9_s1] at hK3
  clear hM3 hE1 hK
  go_wp2_with fail
  refine Calls.mono (KUpdate_c s g K9 2 L _ 2 3 _ (hK3.ext ?hx) (by unfold I64; omega) (by unfold U64; omega)) ?_
  case hx => (repeat' (first | exact Ext.refl _ | assumption | apply Ext.allocR | apply Ext.drewR | apply Ext.drewNR | (refine Ext.trans' ?_ (by assumption))))
  rintro e w4 ⟨rfl, hK4, hM4⟩
  have hE4 : Ext w w4 := hF.ext (by (repeat' (first | exact Ext.refl _ | assumption | apply Ext.allocR | apply Ext.drewR | apply Ext.drewNR | (refine Ext.trans' ?_ (by assumption))))) hM4
  rw [K9_e2] at hK4 ⊢
  replace hK4 : KAt w4 s g K9 2 L (updK K9 (feedK K9 [(1, 5)]) 2 3) := hK4
  rw [K9_s2] at hK4
  clear hM4 hE3 hK3
  have hQ : ∀ W' k, Ext w4 W' → I64 k → Calls Tryz.prog 33 #[.pointer (some ⟨s, 0, none⟩), .int .i64 k] W' fun e w' => e = .returned (.tuple #[.int .u64 (quanR pt9 2 8 k).1, .int .i64 (quanR pt9 2 8 k).2]) ∧ Ext W' w' := fun W' k h hk => by
    have := Quan_of s 2 (by decide) pt9 ((feedK K9 us9 2).getD 0 0) k W' (fun W'' hE => WayR_c s g K9 2 L (feedK K9 us9) W'' ((hK4.ext h).ext hE) k hk pt9 K9_u pt9_I)
    rw [K9_t] at this
    exact this
  have hR : ∀ x y, U64 x → U64 y → ∀ W', Ext w4 W' → Calls Tryz.prog 80 #[.pointer (some ⟨s, 0, none⟩), .int .u64 x, .int .u64 y] W' fun e w' => e = .returned (.tuple #[.int .i64 (rangR 2 pt9 x y).1, .int .i64 (rangR 2 pt9 x y).2]) ∧ Ext W' w' := fun x y hx hy W' h =>
    (Range_c s g K9 2 L (feedK K9 us9) W' (hK4.ext h) pt9 K9_u pt9_I x y hx hy).mono fun e w' h => rang_of h
  have HK := Lib.hid hK4
  have HQ := Lib.hid hQ
  have HR := Lib.hid hR
  clear hK4 hQ hR hF
  go_wp2_with fail
  have hEa : Ext w4 (w4.alloc (.cells #[.int .i64 5, .int .i64 6] 2)) := Ext.alloc' _ _
  refine Calls.mono (Quantiles_c s (quanR pt9 2 8) [5, 6] (some ⟨w4.heap.size, 0, none⟩) 2 _ (ints2 w4 5 6 _) (by decide) (fun k hk W' h => HQ.out W' k (hEa.trans' h) (by simp at hk; unfold I64; omega))) ?_
  rintro e w5 ⟨v5, rfl, ho5, hx5⟩
  rw [e9_q] at ho5 ⊢
  obtain ⟨g5, c5, rfl, _, hg5, hc5⟩ := own_row_cells ho5 (by decide)
  have q0 := (hc5 0 (by decide)).trans (show _ = some (Value.int .u64 1) from rfl)
  have q1 := (hc5 1 (by decide)).trans (show _ = some (Value.int .u64 2) from rfl)
  have hE5 : Ext w4 w5 := hEa.trans' hx5
  have Q := Lib.hid (And.intro q0 q1)
  clear ho5 hx5 hc5 q0 q1 hEa
  go_wp2_with fail
  have hEb : Ext w4 (w5.alloc (.cells #[.int .u64 2] 22)) := hE5.allocR _
  refine Calls.mono (Hist_c s g K9 2 L (feedK K9 us9) _ (HK.out.ext hEb) f9 [2] (some ⟨w5.heap.size, 0, none⟩) 1 (u1 w5 2 _) (fun c hc => by simp at hc; subst hc; unfold U64; omega) (by decide) (fun x y hx hy W' h => HR.out x y hx hy W' (hEb.trans' h))) ?_
  rintro e w6 ⟨v6, rfl, ho6, hx6⟩
  rw [h9_a] at ho6 ⊢
  have HI6 := Lib.hid (IntsAt.of_row ho6)
  have hE6 : Ext w4 w6 := hEb.trans' hx6
  have hE56 : Ext w5 w6 := (Ext.alloc' _ _).trans' hx6
  obtain ⟨p6, c6, rfl⟩ := own_sl ho6
  clear ho6 hx6 hEb hE5
  go_wp2_with fail
  refine Calls.mono (Top_c 12 sorts_12 s g K9 2 L (feedK K9 us9) _ (HK.out.ext hE6) pt9 K9_u 1 1 7 (by rw [h9]; decide)) ?_
  rintro e w7 ⟨v7, S, rfl, hS, ho7, hx7⟩
  rw [h9] at hS ⊢
  have hS2 := srt9 (S := S) hS
  subst hS2
  obtain ⟨g7, c7, rfl, _, hg7, hc7⟩ := own_row_cells ho7 (by decide)
  have t0 := (hc7 0 (by decide)).trans (show _ = some (Value.int .i64 0) from rfl)
  have t1 := (hc7 1 (by decide)).trans (show _ = some (Value.int .u64 1) from rfl)
  have t2 := (hc7 2 (by decide)).trans (show _ = some (Value.int .i64 5) from rfl)
  have T7 := Lib.hid (And.intro t0 (And.intro t1 t2))
  have hE7 : Ext w4 w7 := hE6.trans' hx7
  have hE57 := hE56.trans' hx7
  have HX7 := Lib.hid hx7
  clear ho7 hc7 hS t0 t1 t2 hx7 hE6 hE56
  go_wp2_with fail
  have hEc : Ext w4 (w7.alloc (.cells #[.int .u64 2, .int .u64 2] 22)) := hE7.allocR _
  refine Calls.mono (Hist_c s g K9 2 L (feedK K9 us9) _ (HK.out.ext hEc) f9 [2, 2] (some ⟨w7.heap.size, 0, none⟩) 2 (u2 w7 2 2 _) (fun c hc => by simp at hc; subst hc; unfold U64; omega) (by decide) (fun x y hx hy W' h => HR.out x y hx hy W' (hEc.trans' h))) ?_
  rintro e w8 ⟨v8, rfl, ho8, hx8⟩
  rw [h9_b] at ho8 ⊢
  have hE78 : Ext w7 w8 := (Ext.alloc' _ _).trans' hx8
  have hE58 := hE57.trans' hE78
  have hE8 := hE4.trans' (hE7.trans' hE78)
  obtain ⟨q0', q1'⟩ := Q.out
  obtain ⟨t0', t1', t2'⟩ := T7.out
  have q0 := ((bcell hE58).1 _ _ hg5).trans q0'
  have q1 := ((bcell hE58).1 _ _ hg5).trans q1'
  have t0 := ((bcell hE78).1 _ _ hg7).trans t0'
  have t1 := ((bcell hE78).1 _ _ hg7).trans t1'
  have t2 := ((bcell hE78).1 _ _ hg7).trans t2'
  have gl5 := Nat.lt_of_lt_of_le hg5 hE58.size
  have gl7 := Nat.lt_of_lt_of_le hg7 hE78.size
  have HI8 := Lib.hid (HI6.out.ext (HX7.out.trans' hE78))
  clear ho8 hx8 hEc hE7 hE57 hE58 hE78 q0' q1' t0' t1' t2' hg5 hg7
  go_wp2_with fail
  refine Calls.mono (Same_c _ _ [5, 3] [5, 3] _ (HI8.out.ext (Ext.alloc' _ _)) (ints2 w8 5 3 _) (by decide) (by decide)) ?_
  rintro e w9 ⟨rfl, hx9⟩
  have hE89 : Ext w8 w9 := (Ext.alloc' _ _).trans' hx9
  have hE9 := hE8.trans' hE89
  have q0' := ((bcell hE89).1 _ _ gl5).trans q0
  have q1' := ((bcell hE89).1 _ _ gl5).trans q1
  have t0' := ((bcell hE89).1 _ _ gl7).trans t0
  have t1' := ((bcell hE89).1 _ _ gl7).trans t1
  have t2' := ((bcell hE89).1 _ _ gl7).trans t2
  have gl5' := Nat.lt_of_lt_of_le gl5 hE89.size
  have gl7' := Nat.lt_of_lt_of_le gl7 hE89.size
  clear q0 q1 t0 t1 t2 gl5 gl7 hx9 hE89
  rw [decide_eq_true rfl]
  go_wp2
  go_ret
  exact ⟨rfl, hE9⟩
end Go.Proofs.YtfhdjekpdifajaaGreat
namespace Go.Proofs.YtfhdjekpdifajaaGreat
set_option linter.unusedVariables false
open Go.RowKit
theorem spans_len (K : Int) : ∀ (a : Int) (l : List Int), (spansL K a l).length = l.length + 1
  | a, [] => rfl
  | a, c :: r => by
    show ((a, c - 1) :: spansL K c r).length = _
    rw [List.length_cons, spans_len K c r]; rfl
theorem hist_len (f : Int × Int → Int × Int) (K : Int) (l : List Int) : (histR f K l).1.length ≤ l.length + 1 := by
  by_cases h1 : Rise l l.length
  · by_cases h2 : Inner K l
    · rw [hist_ok h1 h2]
      unfold eachR
      split
      · simp [spans_len]
      · simp
    · rw [hist_key h1 h2]; simp
  · rw [hist_rise h1]; simp
set_option maxRecDepth 20000 in
set_option maxHeartbeats 16000000 in
theorem HistL_c (x : Cfg) (hx : x.Raw) (us : List (Int × Int)) (hus : UpsOk us) (v : Value) (ks : List Int) (p : Option Addr) (n c : Nat) (w : World) (hv : UpsAt w v us) (hul : us.length ≤ 140737488355328) (hk : USl w p n c ks) (hI : allU ks) (hnl : n ≤ 281474976710656) :
    Calls Tryz.prog 9 #[.agg #[.int .i64 x.bits, .int .i64 x.rows, .int .i64 x.width, .int .i64 x.mode, .int .u64 x.seed, v], .slice p n c] w fun e w' => e = .returned (.bool true) ∧ Ext w w' := by
  obtain ⟨vp, vc, rfl⟩ := hv.sl
  have HV := Lib.hid hv
  have HK := Lib.hid hk
  have HI := Lib.hid hI
  clear hv hk hI
  go_enter Tryz.func9, Tryz.ntmps9
  go_wp2_with fail
  refine (shown19_c _).mono ?_
  rintro e w1 ⟨rfl, hb1⟩
  have hE1 : Ext w w1 := by (repeat' (first | exact Ext.refl _ | assumption | apply Ext.allocR | apply Ext.drewR | apply Ext.drewNR | (refine Ext.trans' ?_ (by assumption))))
  have hT1 := hb1.keep (heap_at w (.cells #[.int .i64 x.bits, .int .i64 x.rows, .int .i64 x.width, .int .i64 x.mode, .int .u64 x.seed, .slice vp us.length vc] 107) rfl)
  clear hb1
  have d0 := (cell_of hT1 0).trans rfl
  have d1 := (cell_of hT1 1).trans rfl
  have d2 := (cell_of hT1 2).trans rfl
  have d3 := (cell_of hT1 3).trans rfl
  have d4 := (cell_of hT1 4).trans rfl
  have d5 := (cell_of hT1 5).trans rfl
  have dl := lt_of hT1
  go_wp2_with fail
  refine Calls.mono (Made_c 6 (.inr rfl) x hx us hus _ _ (HV.out.ext hE1) hul) ?_
  rintro e w2 ⟨B, s, r, N, y, rfl, hB, hok, hKP, hN, hx2⟩
  have HKP := Lib.hid hKP
  have hE2 := hE1.trans' hx2
  clear hKP d0 d1 d2 d3 d4 d5 dl hT1 hx2 hE1
  generalize mkC x 6 9 = C at *
  have hkn := HK.out.1
  have hkc := HK.out.2.1
  obtain ⟨m, hm⟩ : ∃ m, min n 20 = m := ⟨_, rfl⟩
  have hmt : (min (n : Int) 20).toNat = m := by omega
  have hm20 : m ≤ 20 := by omega
  have hml : (ks.take m).length = m := by rw [List.length_take]; omega
  have hsrc : u64s (ks.take m) = [] ∨ ∃ g off, p = some ⟨g, off, none⟩ ∧ ∀ k, k < m → (w2.alloc (.cells #[] 22)).cell? ⟨g, off + k, none⟩ = (u64s (ks.take m))[k]? := by
    by_cases h0 : m = 0
    · exact .inl (by rw [h0]; rfl)
    · obtain ⟨g, off, hp, hg, hc⟩ := HK.out.2.2.resolve_left (fun h => by omega)
      have hE3 := hE2.trans' (Ext.alloc' w2 (.cells #[] 22))
      exact .inr ⟨g, off, hp, fun k hk => by
        rw [((bcell hE3).1 _ _ hg).trans (hc k (by omega))]
        unfold u64s
        rw [List.getElem?_map, List.getElem?_take_of_lt hk, List.getElem?_eq_getElem (by omega)]
        simp [List.getD, show k < ks.length by omega]⟩
  have HSRC := Lib.hid hsrc
  have HML := Lib.hid hml
  have hIt : ∀ k ∈ ks.take m, U64 k := fun k hk => HI.out k (List.mem_of_mem_take hk)
  have HIT := Lib.hid hIt
  have HMT := Lib.hid hmt
  have hmc : m ≤ c := by omega
  have HMC := Lib.hid hmc
  have hsl : 0 ≤ min (n : Int) 20 ∧ min (n : Int) 20 ≤ (c : Int) := by omega
  clear hsrc hml hIt hkn hkc hm hmt hmc
  generalize ks.take m = kt at *
  have hs2 := hE2.size
  have h0 : (w2.alloc (.cells #[] 22)).ownsRow w2.heap.size 22 1 (.slice (some ⟨w2.heap.size, 0, none⟩) 0 0) ([] : List Value).length [] := own_newK w2 w2.heap.size (Nat.le_refl _) 22 1 0 #[] (by decide) rfl
  have hone : ∀ u ∈ u64s kt, u.oneCell' = true := by
    intro u hu
    unfold u64s at hu
    simp only [List.mem_map] at hu
    obtain ⟨x, _, rfl⟩ := hu
    rfl
  have HONE := Lib.hid hone
  have hul2 : (min (n : Int) 20).toNat = (u64s kt).length := by rw [u64s_len, HML.out]; exact HMT.out
  have HUL2 := Lib.hid hul2
  clear hone hul2
  rw [← HMT.out] at HSRC
  have H0 := Lib.hid h0
  clear h0
  go_wp2_with (at_builtin; go_loud (refine wpList_appV (w2.alloc (.cells #[] 22)) (u64s kt) [] _ w2.heap.size 22 H0.out 110 rfl _ _ rfl info_u64 Tryz.underlying110 (by rfl) _ _ _ (by rfl) HUL2.out HSRC.out HONE.out (by rw [HMT.out]; simp; omega) (by rw [size_alloc]; omega) ?_))
  intro v' w3 hrow hresx
  have hE23 : Ext w2 w3 := hresx w2 (Ext.alloc' _ _) (Nat.le_refl _)
  rw [u64s_len] at hrow
  obtain ⟨p3, c3, rfl⟩ := own_sl hrow
  have HKS := Lib.hid (UAt.of_row hrow)
  have hE3 := hE2.trans' hE23
  have hKP3 := HKP.out.ext hE23
  have hl20 : kt.length ≤ 90000 := by have := HML.out; omega
  obtain ⟨f, hf⟩ : ∃ f : Int × Int → Int × Int, (fun x => rangR B (ptU C y) x.1 x.2) = f := ⟨_, rfl⟩
  have hRP : ∀ a b, U64 a → U64 b → ∀ W', Ext w3 W' → Calls Tryz.prog 80 #[.pointer (some ⟨s, 0, none⟩), .int .u64 a, .int .u64 b] W' fun e w' => e = .returned (.tuple #[.int .i64 (f (a, b)).1, .int .i64 (f (a, b)).2]) ∧ Ext W' w' := fun a b ha hb W' hE => by
    rw [← hf]; exact KP_range (hKP3.ext hE) a b ha hb
  have hRR : ∀ a b, U64 a → U64 b → ∀ W', Ext w3 W' → Calls Tryz.prog 133 #[.pointer (some ⟨r, 0, none⟩), .int .u64 a, .int .u64 b] W' fun e w' => e = .returned (.tuple #[.int .i64 (f (a, b)).1, .int .i64 (f (a, b)).2]) ∧ Ext W' w' := fun a b ha hb W' hE => by
    rw [← hf]; exact KP_rrange (hKP3.ext hE) a b ha hb
  obtain ⟨gg, L, tt, L2, z, k1, _, _, k4, _⟩ := hKP3
  have hQ1 := Hist_c s gg C B L y w3 k1 f kt p3 c3 HKS.out HIT.out hl20 hRP
  have HQ1 := Lib.hid hQ1
  have HRR := Lib.hid hRR
  have HK4 := Lib.hid k4
  have HL20 := Lib.hid hl20
  clear hresx hE23 hrow hQ1 HKP HSRC HMT H0 hl20 hsl hRP hRR k1 k4 hf HUL2 HONE
  generalize hkl : kt.length = kl at *
  have HKL := Lib.hid hkl
  clear hkl
  go_wp2_with fail
  refine Calls.mono HQ1.out ?_
  rintro e w4 ⟨v4, rfl, ho4, hx4⟩
  have hQ2 := RHist_c r tt C B L2 y w4 (HK4.out.ext hx4) f kt p3 c3 (by rw [HKL.out]; exact HKS.out.ext hx4) HIT.out (by rw [HKL.out]; exact HL20.out) (fun a b ha hb W' hE => HRR.out a b ha hb W' (hx4.trans' hE))
  rw [HKL.out] at hQ2
  have HQ2 := Lib.hid hQ2
  have HU4 := Lib.hid (IntsAt.of_row ho4)
  have HX4 := Lib.hid hx4
  obtain ⟨p4, c4, rfl⟩ := own_sl ho4
  have hel := hist_len f (keys C 0) kt
  have HEL := Lib.hid hel
  clear hQ2 hx4 ho4 HQ1 hel
  generalize histR f (keys C 0) kt = er at *
  obtain ⟨l, en⟩ := er
  dsimp only at *
  generalize hll : l.length = ll at *
  have HLL := Lib.hid hll
  clear hll
  go_wp2_with fail
  refine Calls.mono HQ2.out ?_
  rintro e w5 ⟨v5, rfl, ho5, hx5⟩
  have HU5 := Lib.hid (IntsAt.of_row ho5)
  obtain ⟨p5, c5, rfl⟩ := own_sl ho5
  have hE5 := hE3.trans' (HX4.out.trans' hx5)
  have hlm : l.length ≤ 1000000 := by rw [HLL.out]; have h1 := HEL.out; have h2 := HKL.out; have h3 := HL20.out; omega
  have hSame := Same_c _ _ l l w5 (HU4.out.ext hx5) HU5.out hlm hlm
  rw [decide_eq_true rfl] at hSame
  try dsimp only at hSame
  rw [HLL.out] at hSame
  have HSM := Lib.hid hSame
  clear hSame ho5 hx5 hlm
  rw [show (l, en).1.length = ll from HLL.out]
  go_wp2_with fail
  refine Calls.mono HSM.out ?_
  rintro e w6 ⟨rfl, hx6⟩
  have hE6 := hE5.trans' hx6
  go_wp2
  go_ret
  exact ⟨rfl, hE6⟩
end Go.Proofs.YtfhdjekpdifajaaGreat
namespace Go.Proofs.YtfhdjekpdifajaaGreat
set_option linter.unusedVariables false
open Go.ChangeShapes Go.WideShapes Go.ChangeAt Go.RowKit Go.Deep
theorem wf_u64 {x : Int} (h : (Lit.int IntKind.u64 x).wf = true) : U64 x := by
  have := bounds_u64 h
  exact ⟨this.1, by omega⟩
theorem wf_i64 {x : Int} (h : (Lit.int IntKind.i64 x).wf = true) : I64 x := by
  have := bounds_i64 h
  exact ⟨this.1, by omega⟩
section
variable {H : Type} {enc : TypeId × Value → H} {w : World} {base : Nat} {spare : Nat → Bool} {held : Bool}
set_option maxRecDepth 100000 in
/-- Five cells that read as a config. -/
theorem cfg_of {n : Nat} {cs : List Value} {y : DataW H × List MemPlace} (h : DataW.trod enc Tryz.prog w base spare held n 24 cs = some y) :
    ∃ C : Cfg, C.Raw ∧ cs = [.int .i64 C.bits, .int .i64 C.rows, .int .i64 C.width, .int .i64 C.mode, .int .u64 C.seed] := by
  obtain ⟨xs, n, _, _, hl, hx, hg⟩ := DataW.trod_struct Tryz.underlying24 h
  have hl' : cs.length = 5 := hl.trans (by kernel_rfl)
  match cs, hl' with
  | [c0, c1, c2, c3, c4], _ =>
    have hx' : xs.length = 5 := hx.trans (by kernel_rfl)
    match xs, hx' with
    | [x0, x1, x2, x3, x4], _ =>
      have e0 : DataW.trod enc Tryz.prog w base spare held n 3 [c0] = some x0 := hg 0 _ rfl
      have e1 : DataW.trod enc Tryz.prog w base spare held n 3 [c1] = some x1 := hg 1 _ rfl
      have e2 : DataW.trod enc Tryz.prog w base spare held n 3 [c2] = some x2 := hg 2 _ rfl
      have e3 : DataW.trod enc Tryz.prog w base spare held n 3 [c3] = some x3 := hg 3 _ rfl
      have e4 : DataW.trod enc Tryz.prog w base spare held n 22 [c4] = some x4 := hg 4 _ rfl
      obtain ⟨a0, h0, _, w0⟩ := DataW.trod_int Tryz.underlying3 e0
      obtain ⟨a1, h1, _, w1⟩ := DataW.trod_int Tryz.underlying3 e1
      obtain ⟨a2, h2, _, w2⟩ := DataW.trod_int Tryz.underlying3 e2
      obtain ⟨a3, h3, _, w3⟩ := DataW.trod_int Tryz.underlying3 e3
      obtain ⟨a4, h4, _, w4⟩ := DataW.trod_int Tryz.underlying22 e4
      simp only [List.cons.injEq, and_true] at h0 h1 h2 h3 h4
      exact ⟨⟨a0, a1, a2, a3, a4⟩, ⟨wf_i64 w0, wf_i64 w1, wf_i64 w2, wf_i64 w3, wf_u64 w4⟩, by rw [h0, h1, h2, h3, h4]⟩
set_option maxRecDepth 100000 in
/-- Two cells that read as an update. -/
theorem upd_of {n : Nat} {cs : List Value} {y : DataW H × List MemPlace} (h : DataW.trod enc Tryz.prog w base spare held n 138 cs = some y) :
    ∃ u : Int × Int, (U64 u.1 ∧ I64 u.2) ∧ cs = [.int .u64 u.1, .int .i64 u.2] := by
  obtain ⟨xs, n, _, _, hl, hx, hg⟩ := DataW.trod_struct Tryz.underlying138 h
  have hl' : cs.length = 2 := hl.trans (by kernel_rfl)
  match cs, hl' with
  | [c0, c1], _ =>
    have hx' : xs.length = 2 := hx.trans (by kernel_rfl)
    match xs, hx' with
    | [x0, x1], _ =>
      have e0 : DataW.trod enc Tryz.prog w base spare held n 22 [c0] = some x0 := hg 0 _ rfl
      have e1 : DataW.trod enc Tryz.prog w base spare held n 2 [c1] = some x1 := hg 1 _ rfl
      obtain ⟨a0, h0, _, w0⟩ := DataW.trod_int Tryz.underlying22 e0
      obtain ⟨a1, h1, _, w1⟩ := DataW.trod_int Tryz.underlying2 e1
      simp only [List.cons.injEq, and_true] at h0 h1
      exact ⟨(a0, a1), ⟨wf_u64 w0, wf_i64 w1⟩, by rw [h0, h1]⟩
theorem add_plain0 (b off i : Nat) : (Addr.add ⟨b, off, none⟩ i) = ⟨b, off + i, none⟩ := by
  unfold Addr.add
  by_cases h : i = 0
  · subst h; simp
  · simp [h]
theorem choose_list {α : Type} (P : Nat → α → Prop) : ∀ n, (∀ i, i < n → ∃ x, P i x) → ∃ l : List α, l.length = n ∧ ∀ i (h : i < l.length), P i l[i] := by
  intro n
  induction n with
  | zero => intro _; exact ⟨[], rfl, fun i h => by simp at h⟩
  | succ n ih =>
    intro h
    obtain ⟨l, hl, hP⟩ := ih (fun i hi => h i (by omega))
    obtain ⟨x, hx⟩ := h n (by omega)
    refine ⟨l ++ [x], by simp [hl], fun i hi => ?_⟩
    by_cases e : i < l.length
    · rw [List.getElem_append_left e]; exact hP i e
    · have : i = n := by simp at hi; omega
      subst this
      rw [List.getElem_append_right (by omega)]
      simp [hl, hx]
/-- A cell that reads as a slice of updates. -/
theorem ups_of {n : Nat} {v : Value} {y : DataW H × List MemPlace} (h : DataW.trod enc Tryz.prog w 0 (fun _ => true) held n 105 [v] = some y) :
    ∃ us : List (Int × Int), UpsOk us ∧ UpsAt w v us ∧ (us = [] ∨ ∃ el sp : List (DataW H), y.1 = .slice el sp ∧ el.length = us.length) := by
  rcases open_slice Tryz.underlying105 h with ⟨hcs, _⟩ | ⟨a, len, cap, m, n', D, Pl, hcs, _, hlc, hcm, hm, hx, hi⟩
  · simp only [List.cons.injEq, and_true] at hcs
    subst hcs
    exact ⟨[], (by intro u hu; cases hu), .inl ⟨⟨_, rfl⟩, rfl⟩, .inl rfl⟩
  · simp only [List.cons.injEq, and_true] at hcs
    subst hcs
    simp only [if_true] at hm
    rw [hm] at hi hx
    clear hm
    have hC : Tryz.prog.cellsOf 138 = 2 := by kernel_rfl
    rw [hC] at hi
    have key : ∀ i, i < len → ∃ u : Int × Int, (U64 u.1 ∧ I64 u.2) ∧ w.cell? (a.add (i * 2)) = some (.int .u64 u.1) ∧ w.cell? (a.add (i * 2 + 1)) = some (.int .i64 u.2) := by
      intro i hil
      obtain ⟨cs', hc, ht⟩ := hi i (by omega)
      obtain ⟨u, hu, rfl⟩ := upd_of ht
      obtain ⟨_, _, hat⟩ := World.cells?_some hc
      refine ⟨u, hu, ?_, ?_⟩
      · have := hat 0 (by omega); rw [add_add, Nat.add_zero] at this; exact this
      · have := hat 1 (by omega); rw [add_add] at this; exact this
    obtain ⟨us, hul, hus⟩ := choose_list _ len key
    by_cases h0 : cap = 0
    · have hl0 : len = 0 := by omega
      subst hl0 h0
      obtain rfl : us = [] := List.length_eq_zero_iff.1 hul
      exact ⟨[], (by intro u hu; cases hu), .inl ⟨⟨_, rfl⟩, rfl⟩, .inl rfl⟩
    · obtain ⟨cs', hc, ht⟩ := hi 0 (by omega)
      obtain ⟨u, _, rfl⟩ := upd_of ht
      obtain ⟨_, _, hat⟩ := World.cells?_some hc
      have h1 := hat 0 (by omega)
      obtain ⟨b, off, spot⟩ := a
      have hspot : spot = none := by simpa [Addr.add] using World.cell?_spot h1
      subst hspot
      have hb : b < w.heap.size := by
        rcases Nat.lt_or_ge b w.heap.size with h' | h'
        · exact h'
        · simp [World.cell?, Addr.add, Array.getElem?_eq_none h'] at h1
      refine ⟨us, ?_, .inr ⟨b, off, cap, by rw [hul], hb, fun k hk => ?_⟩, .inr ⟨_, _, by rw [hx], by simp [hul]⟩⟩
      · intro u hu
        obtain ⟨i, hi', rfl⟩ := List.getElem_of_mem hu
        exact (hus i hi').1
      · have := (hus k hk).2
        have hg : us.getD k (0, 0) = us[k] := by simp [hk]
        rw [hg]
        rw [add_plain0, add_plain0] at this
        simpa only [Nat.add_assoc] using this
theorem reach_of {ts : List TypeId} {ds : List (DataW H)} {j : Nat} {t : TypeId} {d : DataW H} (hsz : (DataW.weightsEach Tryz.prog ts ds).all (· ≤ reachBytes) = true) (ht : ts[j]? = some t) (hd : ds[j]? = some d) {n : Nat} (hn : n ∈ d.weights Tryz.prog t) : n ≤ reachBytes := by
  have := List.all_eq_true.1 hsz _ (DataW.weights_mem_each ht hd n hn)
  simpa using this
end
end Go.Proofs.YtfhdjekpdifajaaGreat
namespace Go.Proofs.YtfhdjekpdifajaaGreat
set_option linter.unusedVariables false
open Go.ChangeShapes Go.WideShapes Go.ChangeAt Go.RowKit Go.Deep
theorem own : ownKnob Tryz.prog.godebug = none := by kernel_rfl
theorem laidOut : laidOutB Tryz.prog = true := by kernel_rfl
section
variable {H : Type} {enc : TypeId × Value → H} {w : World} {held : Bool}
end
end Go.Proofs.YtfhdjekpdifajaaGreat
namespace Go.Proofs.YtfhdjekpdifajaaGreat
set_option linter.unusedVariables false
open Go.ChangeShapes Go.WideShapes Go.ChangeAt Go.RowKit Go.Deep
section
variable {H : Type} {enc : TypeId × Value → H} {w : World} {held : Bool}
set_option maxRecDepth 100000 in
theorem uintsarg_of {r : Reach} {b0 : Nat} {v : Value} {d : DataW H} {p : List MemPlace} (hv : Value.okWide Tryz.prog w r b0 110 v) (h : DataW.Trod enc Tryz.prog w 0 (fun _ => true) held 110 v d p) :
    ∃ (l : List Int) (q : Option Addr) (n cap : Nat), allU l ∧ USl w q n cap l ∧ v = .slice q n cap ∧
      ∀ (ts : List TypeId) (ds : List (DataW H)) (j : Nat), (DataW.weightsEach Tryz.prog ts ds).all (· ≤ reachBytes) = true → ts[j]? = some 110 → ds[j]? = some d → n ≤ 281474976710656 := by
  obtain ⟨q, n, cap, rfl⟩ := okWide_slice Tryz.underlying110 hv
  obtain ⟨fuel, hf⟩ := h
  rcases open_ints Tryz.underlying110 Tryz.underlying22 (by kernel_rfl) hf with ⟨hcs, _⟩ | ⟨a, len, cap', zs, hcs, _, hlc, hcm, hzl, hx, hi, hwf⟩
  · have hcs' : [Value.slice q n cap] = [Value.slice none 0 0] := hcs
    simp only [List.cons.injEq, and_true, Value.slice.injEq] at hcs'
    obtain ⟨rfl, rfl, rfl⟩ := hcs'
    exact ⟨[], none, 0, 0, (by intro x hx; cases hx), ⟨rfl, Nat.le_refl _, .inl ⟨rfl, fun _ => rfl⟩⟩, rfl, fun _ _ _ _ _ _ => Nat.zero_le _⟩
  · have hcs' : [Value.slice q n cap] = [Value.slice (some a) len cap'] := hcs
    simp only [List.cons.injEq, and_true, Value.slice.injEq] at hcs'
    obtain ⟨rfl, rfl, rfl⟩ := hcs'
    simp only [if_true] at hzl
    refine ⟨zs.take n, some a, n, cap, ?_, ⟨by rw [List.length_take]; omega, hlc, ?_⟩, rfl, ?_⟩
    · intro x hx'
      exact wf_u64 (hwf x (List.mem_of_mem_take hx'))
    · by_cases h0 : n = 0
      · exact .inl ⟨h0, fun h => by cases h⟩
      · have h1 := hi 0 (by omega)
        obtain ⟨b, off, spot⟩ := a
        have hspot : spot = none := by simpa [Addr.add] using World.cell?_spot h1
        subst hspot
        have hb : b < w.heap.size := by
          rcases Nat.lt_or_ge b w.heap.size with h' | h'
          · exact h'
          · simp [World.cell?, Addr.add, Array.getElem?_eq_none h'] at h1
        refine .inr ⟨b, off, rfl, hb, fun k hk => ?_⟩
        have := hi k (by omega)
        rw [add_plain0] at this
        rw [this]
        simp [List.getElem?_take_of_lt hk]
    · intro ts ds j hs ht hj
      have hb : Tryz.prog.bytesOf 22 = 8 := by kernel_rfl
      simp only [Prod.mk.injEq] at hx
      have := reach_of hs ht hj (n := ((lits .u64 (zs.take n)).length + (lits .u64 (zs.drop n)).length) * Tryz.prog.bytesOf 22) (by
        rw [hx.1]
        simp [DataW.weights, DataW.weightsEach, Tryz.underlying110]
        exact .inl rfl)
      rw [hb] at this
      simp only [reachBytes, lits, List.length_map, List.length_take, List.length_drop] at this
      omega
end
end Go.Proofs.YtfhdjekpdifajaaGreat
namespace Go.Proofs.YtfhdjekpdifajaaGreat
set_option linter.unusedVariables false
open Go.ChangeShapes Go.WideShapes Go.ChangeAt Go.RowKit Go.Deep
section
variable {H : Type} {enc : TypeId × Value → H} {w : World} {held : Bool}
set_option maxRecDepth 100000 in
theorem play19_of {r : Reach} {b0 : Nat} {v : Value} {d : DataW H} {p : List MemPlace} (hv : Value.okWide Tryz.prog w r b0 107 v) (h : DataW.Trod enc Tryz.prog w 0 (fun _ => true) held 107 v d p) :
    ∃ (x : Cfg) (us : List (Int × Int)) (u : Value), x.Raw ∧ UpsOk us ∧ UpsAt w u us ∧ v = .agg #[.int .i64 x.bits, .int .i64 x.rows, .int .i64 x.width, .int .i64 x.mode, .int .u64 x.seed, u] ∧
      ∀ (ts : List TypeId) (ds : List (DataW H)) (j : Nat), (DataW.weightsEach Tryz.prog ts ds).all (· ≤ reachBytes) = true → ts[j]? = some 107 → ds[j]? = some d → us.length ≤ 140737488355328 := by
  obtain ⟨cs, rfl, hsz⟩ := okWide_struct Tryz.underlying107 hv
  obtain ⟨fuel, hf⟩ := h
  obtain ⟨l⟩ := cs
  obtain ⟨xs, n, _, hd, hl, hx, hg⟩ := DataW.trod_struct Tryz.underlying107 hf
  have hl' : l.length = 6 := hsz.trans (by kernel_rfl)
  match l, hl' with
  | [c0, c1, c2, c3, c4, c6], _ =>
    have hx' : xs.length = 2 := hx.trans (by kernel_rfl)
    match xs, hx' with
    | [x0, x2], _ =>
      have e0 : DataW.trod enc Tryz.prog w 0 (fun _ => true) held n 24 [c0, c1, c2, c3, c4] = some x0 := hg 0 _ rfl
      have e2 : DataW.trod enc Tryz.prog w 0 (fun _ => true) held n 105 [c6] = some x2 := hg 1 _ rfl
      obtain ⟨x, hxr, hc⟩ := cfg_of e0
      obtain ⟨us, hu, hat, hlen⟩ := ups_of e2
      simp only [List.cons.injEq, and_true] at hc
      obtain ⟨rfl, rfl, rfl, rfl, rfl⟩ := hc
      simp only [Prod.mk.injEq] at hd
      refine ⟨x, us, c6, hxr, hu, hat, rfl, fun ts ds j hs ht hj => ?_⟩
      rcases hlen with rfl | ⟨el, sp, hx2, hel⟩
      · simp
      · have hb : Tryz.prog.bytesOf 138 = 16 := by kernel_rfl
        have := reach_of hs ht hj (n := (el.length + sp.length) * Tryz.prog.bytesOf 138) (by
          rw [hd.1]
          simp [DataW.weights, DataW.weightsEach, hx2, Tryz.underlying107, Tryz.underlying105])
        rw [hb] at this
        simp only [reachBytes] at this
        omega
end
end Go.Proofs.YtfhdjekpdifajaaGreat
namespace Go.Proofs.YtfhdjekpdifajaaGreat
set_option linter.unusedVariables false
open Go.ChangeShapes Go.WideShapes Go.ChangeAt Go.RowKit
set_option maxRecDepth 100000 in
theorem summaryHistogram_lifted (os : Os) (started : os.Started) (H : Type) (enc : TypeId × Value → H) :
    ReturnsInHanded {} Tryz.checked os 9 .any (Rows.summaryHistogramSpec.pre6 enc Tryz.prog Tryz.f9 Rows.summaryHistogramRow.domain false) (Rows.summaryHistogramSpec.post enc Tryz.prog Tryz.f9 false true false false) := by
  refine returnsInHanded_of_change_sized (C := Tryz.checked) own started (by kernel_rfl) Tryz.func9
    (ChangeSpec.witness6 (enc := enc) (C := Tryz.checked) false ⟨#[], #[.agg #[.int .i64 0, .int .i64 0, .int .i64 0, .int .i64 0, .int .u64 0, .slice none 0 0], .slice none 0 0], []⟩ 8 (by kernel_rfl) (by kernel_rfl) (by kernel_rfl) (by kernel_rfl)) ?_
  intro W base args ds gs before hval0 hW hcnd hsz0 _
  have hval : ∀ (j : Nat) t v, Tryz.f9.params[j]? = some t → args[j]? = some v → Value.okWide Tryz.prog W .any base t v := hval0
  have hW' := hW
  obtain ⟨p, q, hA0, hV, rfl, hfz, hnd⟩ := hW
  have hA : DataW.TrodAll enc Tryz.prog W 0 (fun _ => true) true Tryz.f9.params.toList args.toList ds p := hA0
  have hsz : (DataW.weightsEach Tryz.prog (Tryz.f9.params.toList ++ Rows.summaryHistogramSpec.plain.varTypes Tryz.prog) (ds ++ gs)).all (· ≤ reachBytes) = true := hsz0
  rw [Tryz.params9] at hA hval hsz
  obtain ⟨v0, vs0, d0, ds0, p0, q0, hargs, rfl, rfl, h0, r0⟩ := trodAll_cons hA
  obtain ⟨v1, vs1, d1, ds1, p1, q1, rfl, rfl, rfl, h1, r1⟩ := trodAll_cons r0
  obtain ⟨rfl, rfl, rfl⟩ := trodAll_nil r1
  obtain rfl : args = #[v0, v1] := by cases args; simp_all
  obtain ⟨rfl, rfl⟩ := trodVars_none hV
  have k0 := h0
  have k1 := h1
  have lt0 : ∀ x ∈ p0, x.block < W.heap.size := by obtain ⟨m, hm⟩ := k0; exact DataW.trod_lt m _ _ _ hm
  have lt1 : ∀ x ∈ p1, x.block < W.heap.size := by obtain ⟨m, hm⟩ := k1; exact DataW.trod_lt m _ _ _ hm
  obtain ⟨x0, us0, u0, hx0, hus0, hat0, rfl, hr0⟩ := play19_of (hval 0 _ v0 rfl rfl) h0
  have hul0 := hr0 _ _ 0 hsz rfl rfl
  obtain ⟨l1, q1, n1, c1, hl1, hat1, rfl, hr1⟩ := uintsarg_of (hval 1 _ v1 rfl rfl) h1
  have hul1 := hr1 _ _ 1 hsz rfl rfl
  clear hA0 hval0
  refine (HistL_c x0 hx0 us0 hus0 u0 l1 q1 n1 c1 W hat0 hul0 hat1 hl1 hul1).mono fun e W' ⟨he, bel⟩ => ?_
  subst he
  exact ⟨_, rfl, _, _, _, [], _, [], hW', trodAll_mk1 (shut_bool Tryz.underlying4 _), (trodAll_cons_mk (Below.trod laidOut (by kernel_rfl) (of_decide_eq_true (by kernel_rfl)) k0 bel lt0) (trodAll_cons_mk (Below.trod laidOut (by kernel_rfl) (of_decide_eq_true (by kernel_rfl)) k1 bel lt1) trodAll_mk0)), rfl, bel.frame _, fun h => by cases h⟩
end Go.Proofs.YtfhdjekpdifajaaGreat
